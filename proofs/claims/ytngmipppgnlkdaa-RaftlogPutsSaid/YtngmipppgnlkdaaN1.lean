/- The law RaftlogCuts, walked. -/
import Derived.Test.YtngmipppgnlkdaaJ
set_option linter.unusedVariables false
set_option linter.unusedSimpArgs false
namespace Go.Proofs.Ytngmipppgnlkdaa
open Go.RowKit
attribute [local go_sem] Same.cell

/-- The entries that a law is handed: what their lengths may be. -/
def Fits (xs : List Entry) : Prop := xs.length ≤ 1034834473200 ∧ ∀ x ∈ xs, x.Cmd.Records.length ≤ 2513169434843
def LawPost (w : World) (e : Ending) (w' : World) : Prop := e = .returned (.bool true) ∧ Below w.heap.size w w'

theorem acts_reads {w : World} {F : Foot} {A : Option Addr} {c : Nat} {xs : List Entry} (h : RS kEntry w F A xs.length xs) (hc : xs.length ≤ c) (hm : c ≤ 9223372036854775807) :
    RS kLAct (w.alloc (.cells #[.int .i64 0, .int .i64 0, .int .i64 0, .slice A xs.length c] 26)) (fun k => F k ∨ k = w.heap.size) (some ⟨w.heap.size, 0, none⟩) 1 [(⟨0, 0, 0, xs⟩ : LAct)] :=
  RS.lit w (xs := [(⟨0, 0, 0, xs⟩ : LAct)]) (Elems.single (K := kLAct) ⟨A, c, rfl, hc, hm, h⟩)

set_option maxHeartbeats 4000000 in
theorem Cuts_law (A : Option Addr) (c : Nat) (xs : List Entry) (n : Int) (w : World) (F : Foot) (h : RS kEntry w F A xs.length xs) (hc : xs.length ≤ c) (hm : c ≤ 9223372036854775807) (hf : Fits xs) (hn1 : -9223372036854775808 ≤ n) (hn2 : n ≤ 9223372036854775807) :
    Calls Try.prog 3 #[.slice A xs.length c, .int .i64 n] w (LawPost w) := by
  obtain ⟨hf1, hf2⟩ := hf
  go_enter Try.func3, Try.ntmps3
  go_wp2_with fail
  refine (alive_any _).mono ?_
  rintro e w1 ⟨rfl, hb1⟩
  go_wp2_with fail
  have hb2 : Below w.heap.size w (w1.alloc (.cells #[.int .i64 0, .int .i64 0, .int .i64 0, .slice A xs.length c] 26)) := hb1.alloc hb1.size _
  have hr2 := acts_reads (h.below hb1) hc hm
  generalize w1.alloc (.cells #[.int .i64 0, .int .i64 0, .int .i64 0, .slice A xs.length c] 26) = w2 at hb2 hr2 ⊢
  refine (Big17_any _ _ _ _ _ _ hr2 (by omega) (by intro a ha x hx; simp at ha; subst ha; have := hf2 x hx; omega)).mono ?_
  rintro e w3 ⟨r, rfl, hr, hb23⟩
  have hb3 : Below w.heap.size w w3 := hb2.trans (hb23.mono hb2.size)
  have Hr := Lib.hid hr
  clear hr hb1 hb2 hr2 hb23
  cases r
  rotate_left
  · go_wp2
    go_ret
    exact ⟨rfl, hb3⟩
  obtain ⟨_, hsm⟩ := Hr.out rfl
  obtain ⟨hl12, _, _, hrec⟩ := hsm _ (List.mem_singleton.2 rfl)
  have hl12 : xs.length ≤ 12 := hl12
  have hrec : ∀ x ∈ xs, x.Cmd.Records.length ≤ 4 := fun x hx => (hrec x hx).2
  clear hsm Hr
  by_cases hn0 : n < 0
  · go_wp2
    go_ret
    exact ⟨rfl, hb3⟩
  go_wp2
  have hb4 : Below w.heap.size w (w3.alloc (.cells #[.int .i64 0, .int .i64 0, .slice none 0 0] 29)) := hb3.alloc hb3.size _
  have hL4 := LogAt.new w3
  have hg := hb3.size
  generalize w3.alloc (.cells #[.int .i64 0, .int .i64 0, .slice none 0 0] 29) = w4 at hb4 hL4 ⊢
  generalize w3.heap.size = g at hL4 hg ⊢
  clear hb3
  go_loopw [8] (fun q wr => ∃ (k : Nat) (G : Foot), q = .int .i64 k ∧ k ≤ xs.length ∧ LogAt wr g G ⟨0, 0, xs.take k⟩ ∧ Below w.heap.size w wr ∧ (∀ j, G j → w.heap.size ≤ j)) (fun q _ => xs.length - (intOf q).toNat)
  case atStart => exact ⟨0, _, rfl, Nat.zero_le _, hL4, hb4, fun j hj => by omega⟩
  case round =>
    obtain ⟨k, G, rfl, hk, hL, hB, hG⟩ := hrel
    have hok : LogS.Ok ⟨0, 0, xs.take k⟩ := ⟨Int.le_refl _, by simp only; omega, by simp only [List.length_take]; omega, fun x hx => by have := hrec x (List.mem_of_mem_take hx); omega⟩
    by_cases hlt : k < xs.length
    · obtain ⟨x, hxk⟩ : ∃ x, xs[k]? = some x := ⟨_, List.getElem?_eq_getElem hlt⟩
      obtain ⟨ad, A4, c4, hA0, hFa, k0, k1, k2, k3, k4, k5, k6, k7, k8, k9, k10, k11, k12, k13, l4, m4, r4⟩ := at_Entry (h.below hB) hxk
      have HA0 := Lib.hid hA0
      rw [hA0]
      clear hA0
      have hxr := hrec x (List.mem_of_getElem? hxk)
      have e1 : LogS.add ⟨0, 0, xs.take k⟩ x = ⟨0, 0, xs.take (k + 1)⟩ := by unfold LogS.add; simp only; rw [List.take_add_one, hxk]; rfl
      have E1 := Lib.hid e1
      have Hxk := Lib.hid hxk
      clear hxk e1
      go_wp2_with fail
      refine (Add_any g G F ⟨0, 0, xs.take k⟩ x A4 c4 wr hL hok (by simp only [List.length_take]; omega) l4 m4 r4 (by omega)).mono ?_
      rintro e w5 ⟨rfl, hL5, hk5⟩
      rw [E1.out] at hL5 ⊢
      go_wp2
      go_roundw
      case rel =>
        refine ⟨k + 1, _, by go_num, by omega, hL5, hB.trans (hk5.below_of hB.size hG), fun j hj => ?_⟩
        rcases hj with hj | hj
        · exact hG j hj
        · have := hB.size; omega
      case measure => simp [intOf]; omega
    · obtain rfl : k = xs.length := by omega
      rw [List.take_of_length_le (Nat.le_refl _)] at hL hok
      have ho := h.below hB
      obtain ⟨m, hmd⟩ : ∃ m : Nat, n % ((xs.length : Int) + 3) = (m : Int) := ⟨(n % ((xs.length : Int) + 3)).toNat, by have := Int.emod_nonneg n (show ((xs.length : Int) + 3) ≠ 0 by omega); omega⟩
      have hml : (m : Int) < xs.length + 3 := by rw [← hmd]; exact Int.emod_lt_of_pos _ (by omega)
      have hlast : LogS.last ⟨0, 0, xs⟩ = xs.length := by unfold LogS.last; simp only; omega
      go_wp2_with fail
      refine (Cut_any g G ⟨0, 0, xs⟩ wr m hL hok).mono ?_
      rintro e w6 ⟨rfl, hL6, hk6⟩
      have hb6 : Below w.heap.size w w6 := hB.trans (hk6.below_of hB.size hG)
      have hG6 : ∀ j, Grow G wr w6 j → w.heap.size ≤ j := fun j hj => by
        rcases hj with hj | hj
        · exact hG j hj
        · have := hB.size; omega
      have h6 := h.below hb6
      by_cases hc1 : m = 0 ∨ xs.length < m
      · have hcut : LogS.Cut ⟨0, 0, xs⟩ m = (false, ⟨0, 0, xs⟩) := by unfold LogS.Cut; rw [if_pos]; rw [hlast]; simp only; omega
        rw [hcut] at hL6 ⊢
        have hfrom : LogS.From ⟨0, 0, xs⟩ 1 100 = xs := by
          unfold LogS.From
          rw [hlast]
          by_cases h0 : xs.length = 0
          · rw [if_pos (by simp only; omega)]; exact (List.eq_nil_of_length_eq_zero h0).symm
          · rw [if_neg (by simp only; omega)]
            simp only
            rw [show ((1 : Int) - 0 - 1).toNat = 0 from rfl, List.drop_zero, List.take_of_length_le]
            show xs.length ≤ 100
            omega
        have Hhl := Lib.hid hlast
        clear hlast hcut
        have hc2 : (m : Int) = 0 ∨ ((m : Int) ≠ 0 ∧ (xs.length : Int) < m) := by omega
        rcases hc2 with hc2 | ⟨hc2, hc3⟩
        · obtain rfl : m = 0 := by omega
          go_wp2_with fail
          refine (From_any g _ ⟨0, 0, xs⟩ w6 1 100 hL6 hok (by omega)).mono ?_
          rintro e w7 ⟨v7, rfl, hM⟩
          rw [hfrom] at hM
          obtain ⟨A7, c7, rfl, hl7, hm7, hr7⟩ := hM.own.reads
          have hb7 : Below w.heap.size w w7 := hb6.trans (hM.below.mono hb6.size)
          go_wp2_with fail
          refine (SameEntries_any _ _ _ _ _ _ _ _ _ _ _ hr7 (h.below hb7) (by omega) (by omega) (fun x hx => by have := hrec x hx; omega) (fun x hx => by have := hrec x hx; omega)).mono ?_
          rintro e w8 ⟨r, rfl, hr, hb8⟩
          obtain rfl : r = true := hr.2 rfl
          go_wp2
          go_ret
          exact ⟨rfl, hb7.trans (hb8.mono hb7.size)⟩
        · have hcb : ((m : Int) == 0) = false := by rw [beq_eq_false_iff_ne]; exact hc2
          go_wp2_with fail
          refine (From_any g _ ⟨0, 0, xs⟩ w6 1 100 hL6 hok (by omega)).mono ?_
          rintro e w7 ⟨v7, rfl, hM⟩
          rw [hfrom] at hM
          obtain ⟨A7, c7, rfl, hl7, hm7, hr7⟩ := hM.own.reads
          have hb7 : Below w.heap.size w w7 := hb6.trans (hM.below.mono hb6.size)
          go_wp2_with fail
          refine (SameEntries_any _ _ _ _ _ _ _ _ _ _ _ hr7 (h.below hb7) (by omega) (by omega) (fun x hx => by have := hrec x hx; omega) (fun x hx => by have := hrec x hx; omega)).mono ?_
          rintro e w8 ⟨r, rfl, hr, hb8⟩
          obtain rfl : r = true := hr.2 rfl
          go_wp2
          go_ret
          exact ⟨rfl, hb7.trans (hb8.mono hb7.size)⟩
      · have hm1 : 1 ≤ m := by omega
        have hm2 : m ≤ xs.length := by omega
        obtain ⟨x, hx⟩ : ∃ x, xs[m - 1]? = some x := ⟨_, List.getElem?_eq_getElem (by omega)⟩
        have hterm : (LogS.Term ⟨0, 0, xs⟩ m).1 = x.Term := by
          unfold LogS.Term
          rw [hlast, if_neg (by simp only; omega), if_neg (by simp only; omega)]
          simp only
          rw [show ((m : Int) - 0 - 1).toNat = m - 1 by omega, hx]
          rfl
        have hcut : LogS.Cut ⟨0, 0, xs⟩ m = (true, ⟨m, x.Term, xs.drop m⟩) := by
          unfold LogS.Cut
          rw [if_neg (by rw [hlast]; simp only; omega), hterm]
          simp only
          rw [show ((m : Int) - 0).toNat = m by omega]
        rw [hcut] at hL6 ⊢
        have hok2 : LogS.Ok ⟨m, x.Term, xs.drop m⟩ := ⟨by simp only; omega, by simp only; omega, by simp only [List.length_drop]; omega, fun y hy => by have := hrec y (List.mem_of_mem_drop hy); omega⟩
        have hlast2 : LogS.last ⟨m, x.Term, xs.drop m⟩ = xs.length := by unfold LogS.last; simp only [List.length_drop]; omega
        have hterm2 : LogS.Term ⟨m, x.Term, xs.drop m⟩ (m - 1) = (0, false) := by unfold LogS.Term; rw [if_pos (by simp only; omega)]
        have hf1' : LogS.From ⟨m, x.Term, xs.drop m⟩ m 9 = [] := by unfold LogS.From; rw [if_pos (by simp only; omega)]
        have hf2' : LogS.From ⟨m, x.Term, xs.drop m⟩ (m + 1) 100 = xs.drop m := by
          unfold LogS.From
          rw [hlast2]
          by_cases h0 : xs.length = m
          · rw [if_pos (by simp only; omega), ← h0, List.drop_length]
          · rw [if_neg (by simp only; omega)]
            simp only
            rw [show ((m : Int) + 1 - m - 1).toNat = 0 by omega, List.drop_zero, List.take_of_length_le]
            show (xs.drop m).length ≤ 100
            rw [List.length_drop]; omega
        have Hq := Lib.hid (And.intro hlast2 (And.intro hterm2 (And.intro hf1' hf2')))
        have Hx := Lib.hid hx
        clear hlast hcut hterm hlast2 hterm2 hf1' hf2' hx
        have hcb : ((m : Int) == 0) = false := by rw [beq_eq_false_iff_ne]; omega
        go_wp2_with fail
        refine (Base_any g _ _ _ hL6).mono ?_
        rintro e w7 ⟨rfl, k7, rfl⟩
        go_wp2_with fail
        refine (Last_any g _ _ _ (hL6.drewN k7) hok2).mono ?_
        rintro e w8 ⟨rfl, k8, rfl⟩
        rw [show LogS.Last ⟨m, x.Term, xs.drop m⟩ = ((xs.length : Int), (LogS.Last ⟨m, x.Term, xs.drop m⟩).2) from by unfold LogS.Last; rw [Hq.out.1]]
        go_wp2_with fail
        refine (Term_any g _ _ _ _ (hL6.drewN _) hok2).mono ?_
        rintro e w9 ⟨rfl, k9, rfl⟩
        rw [Hq.out.2.1]
        go_wp2_with fail
        have hb9 : Below w.heap.size w (w6.drewN (k7 + k8 + k9)) := ⟨hb6.os, hb6.tape, hb6.output, hb6.size, hb6.block⟩
        have hL9 : LogAt (w6.drewN (k7 + k8 + k9)) g (Grow G wr w6) ⟨m, x.Term, xs.drop m⟩ := hL6.drewN _
        generalize w6.drewN (k7 + k8 + k9) = w9 at hb9 hL9 ⊢
        obtain ⟨ad, A4, c4, hA0, hFa, k0, _⟩ := at_Entry (h.below hb9) Hx.out
        have HA0 := Lib.hid hA0
        rw [hA0]
        clear hA0
        have had : (ad.add ((m - 1) * 14)).block < w9.heap.size := World.block_lt_of_cell? w9 _ k0
        have hNF : ¬ NoF (ad.add ((m - 1) * 14)).block := id
        have e1 : ((m : Int) - 1).toNat = m - 1 := by omega
        have e2 : (0 : Int) ≤ (m : Int) - 1 := by omega
        have e3 : (m : Int) - 1 < (xs.length : Int) := by omega
        have hxl : xs.length ≤ c := hc
        obtain ⟨A', hcut2, hrs⟩ := cut_lo tEntry .i64 (some ad) xs.length c m (by omega)
        have HRS := Lib.hid (hrs kEntry w9 F xs rfl hc (HA0.out ▸ (h.below hb9)))
        clear hrs
        refine wp_region_plan2 [0, 0, 0, 0, 0, 0, 0, 0, 0, 0, 0, 0, 0, 0, 0, 0, 0, 0, 0, 0, 0, 0, 0, 0, 0, 0, 0, 0, 1, 3, 3, 3, 3, 3, 3, 5, 3, 3, 3, 5, 6, 6] (fun w' => ∃ D : Same NoF w9, w' = D.world) (by kernel_rfl) (by kernel_rfl) InSame.start ?_
        simp only [sel, selE, Nat.reduceEqDiff, reduceIte]
        repeat (go_big_quiet_step (fail))
        refine wpQuiet_nil ?_
        refine wpE_cons (fun N hN => ?_)
        go_wp2_with fail
        refine (From_any g _ _ _ _ _ hL9.drew hok2 (by omega)).mono ?_
        rintro e w10 ⟨v, rfl, hM⟩
        rw [Hq.out.2.2.1] at hM
        obtain ⟨A10, c10, rfl, _, _⟩ := hM.own.slice
        have hb10 : Below w9.heap.size w9 w10 := below_undrew hM.below
        go_wp2
        refine hN _ _ (InSame.of_below hb10) ?_
        clear hN N
        repeat (refine wpE_take (fun N hN => ?_); go_big_quiet_step (fail); refine wpQuiet_nil ?_; refine hN _ ?_; clear hN N)
        refine wpE_nil ?_
        refine wpE_cons (fun N hN => ?_)
        go_wp2_with fail
        refine (From_any g _ _ _ _ _ (hL9.below hb10) hok2 (by omega)).mono ?_
        rintro e w11 ⟨v, rfl, hM2⟩
        rw [Hq.out.2.2.2] at hM2
        obtain ⟨A11, c11, rfl, _, _, hr11⟩ := hM2.own.reads
        have hlen11 : (xs.drop m).length = xs.length - m := List.length_drop
        rw [hlen11] at hr11 ⊢
        have hb11 : Below w9.heap.size w9 w11 := hb10.trans (hM2.below.mono hb10.size)
        go_wp2
        refine hN _ _ (InSame.of_below hb11) ?_
        clear hN N
        refine wpE_cons (fun N hN => ?_)
        go_wp2_with fail
        refine (SameEntries_any _ _ _ _ _ _ _ _ _ _ _ hr11 (HRS.out.below hb11) (by omega) (by omega) (fun y hy => by have := hrec y (List.mem_of_mem_drop hy); omega) (fun y hy => by have := hrec y (List.mem_of_mem_drop hy); omega)).mono ?_
        rintro e w12 ⟨r, rfl, hr, hb12⟩
        obtain rfl : r = true := hr.2 rfl
        go_wp2
        refine hN _ _ (InSame.of_below (hb11.trans (hb12.mono hb11.size))) ?_
        clear hN N
        repeat (refine wpE_take (fun N hN => ?_); go_big_quiet_step (fail); refine wpQuiet_nil ?_; refine hN _ ?_; clear hN N)
        refine wpE_nil ?_
        go_wp2
        go_ret
        exact ⟨rfl, hb9.trans ((hb11.trans (hb12.mono hb11.size)).mono hb9.size)⟩
end Go.Proofs.Ytngmipppgnlkdaa
