/- The law DiskCuts, walked. Printed by gen_dk13.py (own work). -/
import Derived.Test.YtfjndjbpgcggkaaDoorDK12
import Derived.BigQuiet
set_option linter.unusedVariables false
set_option linter.unusedSimpArgs false
namespace Go.Proofs.YtfjndjbpgcggkaaDoor
open Go.RowKit

theorem cut_one (s : ByteArray) (f : List Int × Nat) (n : Int) (hv : validName s = true) : dcutC s n [(s, f)] = [(s, (f.1.take (clampN n f.1.length), 0))] := by
  unfold dcutC
  rw [dfound_one s _ hv, if_pos rfl, oput_one]
theorem strOfNums_take (l : List Int) (q : Nat) : (strOfNums l).extract 0 q = strOfNums (l.take q) := by
  rw [ByteArray.ext_iff]
  simp [strOfNums, List.map_take]
theorem osum_one (s : ByteArray) (f : List Int × Nat) : osum flen [(s, f)] = f.1.length := by simp [osum, flen]
theorem loose_q (db : Nat) (s : ByteArray) (w : World) (F : Foot) (room : Int) (c : FObjs) (n : Nat) (h : DiskAt w F db room c) (hn : looseOf s c = n) :
    Calls Tryd.prog 18 #[.pointer (some ⟨db, 0, none⟩), .string s] w fun e w' => e = .returned (.int .i64 n) ∧ w' = w :=
  (dLoose_any db s w F room c h).mono fun _ _ h => ⟨by rw [h.1, hn], h.2.symm⟩
theorem used_q (db : Nat) (w : World) (F : Foot) (room : Int) (c : FObjs) (n : Nat) (h : DiskAt w F db room c) (hn : osum flen c = n) :
    Calls Tryd.prog 16 #[.pointer (some ⟨db, 0, none⟩)] w fun e w' => e = .returned (.int .i64 n) ∧ w' = w :=
  (dUsed_any db w F room c h).mono fun _ _ h => ⟨by rw [h.1, hn], h.2.symm⟩

set_option maxHeartbeats 8000000 in
set_option maxRecDepth 100000 in
theorem DCuts_law (A1 : Option Addr) (c1 : Nat) (a : List Int) (A2 : Option Addr) (c2 : Nat) (b : List Int) (n : Int) (w : World) (hra : RS (kInt .u8) w (Old w) A1 a.length a) (hrb : RS (kInt .u8) w (Old w) A2 b.length b) (hc1 : a.length ≤ c1 ∧ c1 ≤ 9223372036854775807) (hc2 : b.length ≤ c2 ∧ c2 ≤ 9223372036854775807) (hT : TabsBelow w.heap.size w) (hn1' : -9223372036854775808 ≤ n) (hn2' : n ≤ 9223372036854775807) :
    Calls Tryd.prog 5 #[.slice A1 a.length c1, .slice A2 b.length c2, .int .i64 n] w fun e w' => e = .returned (.bool true) ∧ Below w.heap.size w w' := by
  have hE0 : Env w.heap.size w := ⟨hT, Nat.le_refl _⟩
  have HS := Lib.hid (dalive_any w hT)
  obtain ⟨B, hB⟩ : ∃ B, Hid (w.heap.size = B) := ⟨_, rfl⟩
  have hOld : ∀ k, Old w k → k < B := fun k hk => by rw [← hB.out]; exact hk
  generalize Old w = G at hra hrb hOld
  rw [hB.out] at hE0 HS ⊢
  clear hT
  have HE0 := Lib.hid hE0
  clear hE0
  by_cases hn1 : a.length ≤ 300
  · by_cases hn2 : b.length ≤ 300
    · obtain ⟨n1, hn1e⟩ : ∃ n, Hid (a.length = n) := ⟨_, rfl⟩
      obtain ⟨n2, hn2e⟩ : ∃ n, Hid (b.length = n) := ⟨_, rfl⟩
      rw [hn1e.out] at hra hn1 hc1 ⊢
      rw [hn2e.out] at hrb hn2 hc2 ⊢
      have l1 : ¬ (300 < n1) := by omega
      have l2 : ¬ (300 < n2) := by omega
      obtain ⟨n12, hn12⟩ : ∃ q, Hid (n1 + n2 = q) := ⟨_, rfl⟩
      obtain ⟨sA, hsA⟩ : ∃ s, Hid (strOfNums a = s) := ⟨_, rfl⟩
      obtain ⟨sB, hsB⟩ : ∃ s, Hid (strOfNums b = s) := ⟨_, rfl⟩
      obtain ⟨sS, hsS⟩ : ∃ s, Hid (strOfNums (a ++ b) = s) := ⟨_, rfl⟩
      have hsum : sA ++ sB = sS := by rw [← hsA.out, ← hsB.out, ← hsS.out, strOfNums_append]
      have z1 : sA.size = n1 := by rw [← hsA.out, strOfNums_size, hn1e.out]
      have z2 : sB.size = n2 := by rw [← hsB.out, strOfNums_size, hn2e.out]
      have z3 : sS.size = n12 := by rw [← hsS.out, strOfNums_size, List.length_append, hn1e.out, hn2e.out, hn12.out]
      have z4 : n12 ≤ 600 := by rw [← hn12.out]; omega
      by_cases g1 : n < 0
      · have hK : Hid (clampN n n12 = 0) := by show clampN n n12 = 0; unfold clampN; omega
        go_enter Tryd.func5, Tryd.ntmps5
        go_wp2_with fail
        refine HS.out.mono ?_
        rintro e w1 ⟨rfl, hb1⟩
        have hE1 := HE0.out.step hb1
        go_wp2_with fail
        refine (wNew B 1000 w1 hE1 (by omega) (by omega)).mono ?_
        rintro e w2 ⟨sb, rfl, h2, hb2⟩
        have hb2 := hb1.trans (hb2.mono hE1.le)
        generalize New w1 w2 = F2 at h2
        have h2 : DW B w2 F2 sb 1000 [] := h2
        clear hb1 hE1
        go_wp2_with fail
        have hra2 : RS (kInt .u8) w2 G A1 n1 a := hra.keep fun k hk _ => hb2.block k (hOld k hk)
        refine (wApp B sb nF A1 n1 c1 a w2 F2 G _ _ h2 (by decide) hra2 hc1 (fun k h1 h2' => by have := h2.fb k h2'; have := hOld k h1; omega) (by simp [osum]; omega)).mono ?_
        rintro e w3 ⟨rfl, h3, hk3⟩
        have hb3 := hb2.trans (h2.belowB hk3)
        generalize Grow F2 w2 w3 = F3 at h3
        clear hk3 h2 hb2 hra2
        have hp := app_new nF a n1 1000 valid_f hn1e.out (by omega)
        rw [hp.2] at h3
        rw [hp.1]
        clear hp
        go_wp2_with fail
        refine (wSync B sb nF w3 F3 _ _ h3 (by decide)).mono ?_
        rintro e w4 ⟨rfl, h4, hk4⟩
        have hb4 := hb3.trans (h3.belowB hk4)
        generalize Grow F3 w3 w4 = F4 at h4
        clear hk4 h3 hb3
        rw [sync_one nF _ valid_f] at h4
        rw [dfound_one nF _ valid_f]
        go_wp2_with fail
        have hrb4 : RS (kInt .u8) w4 G A2 n2 b := hrb.keep fun k hk _ => hb4.block k (hOld k hk)
        refine (wApp B sb nF A2 n2 c2 b w4 F4 G _ _ h4 (by decide) hrb4 hc2 (fun k h1 h2' => by have := h4.fb k h2'; have := hOld k h1; omega) (by simp [osum, flen]; rw [hn1e.out]; omega)).mono ?_
        rintro e w5 ⟨rfl, h5, hk5⟩
        have hb5 := hb4.trans (h4.belowB hk5)
        generalize Grow F4 w4 w5 = F5 at h5
        clear hk5 h4 hb4 hrb4
        have hp := app_one nF b a 0 n2 1000 valid_f hn2e.out (by rw [hn1e.out]; omega)
        rw [hp.2] at h5
        rw [hp.1]
        clear hp
        go_wp2_with fail
        refine (wCut B sb nF n w5 F5 _ _ h5 (by decide) (by omega) (by omega)).mono ?_
        rintro e w6 ⟨rfl, h6, hk6⟩
        have hb6 := hb5.trans (h5.belowB hk6)
        generalize Grow F5 w5 w6 = F6 at h6
        clear hk6 h5 hb5
        rw [cut_one nF _ _ valid_f, show ((a ++ b, 0 + n2) : List Int × Nat).1.length = n12 by show (a ++ b).length = n12; rw [List.length_append, hn1e.out, hn2e.out, hn12.out], hK.out] at h6
        rw [dfound_one nF _ valid_f]
        obtain ⟨x, hx⟩ : ∃ x, Hid ((a ++ b).take 0 = x) := ⟨_, rfl⟩
        have h6 : DW B w6 F6 sb 1000 [(nF, (x, 0))] := by rw [← hx.out]; exact h6
        have hnx : Hid (x.length = 0) := by show x.length = 0; rw [← hx.out, List.length_take, List.length_append, hn1e.out, hn2e.out, hn12.out]; omega
        go_wp2_with fail
        have hr := lit1 .i64 3 w6 0
        obtain ⟨h7, ha⟩ := h6.lit (.cells #[.int .i64 0] 3)
        have hb7 : Below B w (w6.alloc (.cells #[.int .i64 0] 3)) := hb6.alloc (by have := h6.env.le; omega) _
        generalize w6.alloc (.cells #[.int .i64 0] 3) = w7 at h7 hr hb7 ⊢
        refine (wCrash B sb _ 1 1 [0] w7 F6 _ _ _ h7 (by simp) hr ⟨by omega, by omega⟩ ha).mono ?_
        rintro e w8 ⟨rfl, h8, hk8⟩
        have hb8 := hb7.trans (h7.belowB hk8)
        generalize Grow F6 w7 w8 = F8 at h8
        clear hk8 h7 hb7 hr ha h6 hb6
        rw [crash_synced] at h8
        go_wp2_with fail
        have hrd := wRead B sb nF w8 F8 _ _ h8 (by decide)
        rw [dfound_one nF _ valid_f] at hrd
        dsimp only at hrd
        refine hrd.mono ?_
        rintro e w11 ⟨A11, cp11, rfl, hr11, hk11⟩
        have hb11 := hb8.trans (hk11.mono h8.env.le)
        have h11 := h8.at_.below hk11
        rw [hnx.out] at hr11 ⊢
        have hra11 : RS (kInt .u8) w11 G A1 n1 a := hra.keep fun k hk _ => hb11.block k (hOld k hk)
        have hrb11 : RS (kInt .u8) w11 G A2 n2 b := hrb.keep fun k hk _ => hb11.block k (hOld k hk)
        obtain ⟨sX, hsX⟩ : ∃ s, Hid (strOfNums x = s) := ⟨_, rfl⟩
        have hext : sS.extract 0 0 = sX := by rw [← hsS.out, ← hsX.out, ← hx.out, strOfNums_take]
        have t1 := hra11.str (P := Tryd.prog) 26 9 5 c1 Tryd.underlying26 Tryd.underlying5 Tryd.underlying9
        have t2 := hrb11.str (P := Tryd.prog) 26 9 5 c2 Tryd.underlying26 Tryd.underlying5 Tryd.underlying9
        have t4 := fun n => (hr11.keep (W' := w11.drewN n) fun _ _ _ => rfl).str (P := Tryd.prog) 26 9 5 cp11 Tryd.underlying26 Tryd.underlying5 Tryd.underlying9
        rw [hsA.out] at t1
        rw [hsB.out] at t2
        rw [hsX.out] at t4
        have hlo := Lib.hid (fun n => loose_q sb nF (w11.drewN n) F8 _ _ 0 (h11.keep (W' := w11.drewN n) fun _ _ _ => rfl) (loose_one nF _))
        have hus := Lib.hid (fun n => used_q sb (w11.drewN n) F8 _ _ 0 (h11.keep (W' := w11.drewN n) fun _ _ _ => rfl) ((osum_one _ _).trans hnx.out))
        have hsX0 : sX = ⟨#[]⟩ := by rw [← hsX.out, List.eq_nil_of_length_eq_zero hnx.out]; rfl
        have HB := Lib.hid hb11
        clear hb11 hrd hr11 hra11 hrb11 hk11 h8 hb8 h11
        go_wp2_with fail
        go_quiet (first
          | (go_at_call 15; exact Calls.quiet_of_same (num_q _ _))
          | (go_at_call 18; exact Calls.quiet_of_same (hlo.out _))
          | (go_at_call 16; exact Calls.quiet_of_same (hus.out _)))
        go_wp2
        go_ret
        exact ⟨rfl, HB.out.os, HB.out.tape, HB.out.output, HB.out.size, HB.out.block⟩
      · by_cases g2 : (n12 : Int) < n
        · have hK : Hid (clampN n n12 = n12) := by show clampN n n12 = n12; unfold clampN; omega
          go_enter Tryd.func5, Tryd.ntmps5
          go_wp2_with fail
          refine HS.out.mono ?_
          rintro e w1 ⟨rfl, hb1⟩
          have hE1 := HE0.out.step hb1
          go_wp2_with fail
          refine (wNew B 1000 w1 hE1 (by omega) (by omega)).mono ?_
          rintro e w2 ⟨sb, rfl, h2, hb2⟩
          have hb2 := hb1.trans (hb2.mono hE1.le)
          generalize New w1 w2 = F2 at h2
          have h2 : DW B w2 F2 sb 1000 [] := h2
          clear hb1 hE1
          go_wp2_with fail
          have hra2 : RS (kInt .u8) w2 G A1 n1 a := hra.keep fun k hk _ => hb2.block k (hOld k hk)
          refine (wApp B sb nF A1 n1 c1 a w2 F2 G _ _ h2 (by decide) hra2 hc1 (fun k h1 h2' => by have := h2.fb k h2'; have := hOld k h1; omega) (by simp [osum]; omega)).mono ?_
          rintro e w3 ⟨rfl, h3, hk3⟩
          have hb3 := hb2.trans (h2.belowB hk3)
          generalize Grow F2 w2 w3 = F3 at h3
          clear hk3 h2 hb2 hra2
          have hp := app_new nF a n1 1000 valid_f hn1e.out (by omega)
          rw [hp.2] at h3
          rw [hp.1]
          clear hp
          go_wp2_with fail
          refine (wSync B sb nF w3 F3 _ _ h3 (by decide)).mono ?_
          rintro e w4 ⟨rfl, h4, hk4⟩
          have hb4 := hb3.trans (h3.belowB hk4)
          generalize Grow F3 w3 w4 = F4 at h4
          clear hk4 h3 hb3
          rw [sync_one nF _ valid_f] at h4
          rw [dfound_one nF _ valid_f]
          go_wp2_with fail
          have hrb4 : RS (kInt .u8) w4 G A2 n2 b := hrb.keep fun k hk _ => hb4.block k (hOld k hk)
          refine (wApp B sb nF A2 n2 c2 b w4 F4 G _ _ h4 (by decide) hrb4 hc2 (fun k h1 h2' => by have := h4.fb k h2'; have := hOld k h1; omega) (by simp [osum, flen]; rw [hn1e.out]; omega)).mono ?_
          rintro e w5 ⟨rfl, h5, hk5⟩
          have hb5 := hb4.trans (h4.belowB hk5)
          generalize Grow F4 w4 w5 = F5 at h5
          clear hk5 h4 hb4 hrb4
          have hp := app_one nF b a 0 n2 1000 valid_f hn2e.out (by rw [hn1e.out]; omega)
          rw [hp.2] at h5
          rw [hp.1]
          clear hp
          go_wp2_with fail
          refine (wCut B sb nF n w5 F5 _ _ h5 (by decide) (by omega) (by omega)).mono ?_
          rintro e w6 ⟨rfl, h6, hk6⟩
          have hb6 := hb5.trans (h5.belowB hk6)
          generalize Grow F5 w5 w6 = F6 at h6
          clear hk6 h5 hb5
          rw [cut_one nF _ _ valid_f, show ((a ++ b, 0 + n2) : List Int × Nat).1.length = n12 by show (a ++ b).length = n12; rw [List.length_append, hn1e.out, hn2e.out, hn12.out], hK.out] at h6
          rw [dfound_one nF _ valid_f]
          obtain ⟨x, hx⟩ : ∃ x, Hid ((a ++ b).take n12 = x) := ⟨_, rfl⟩
          have h6 : DW B w6 F6 sb 1000 [(nF, (x, 0))] := by rw [← hx.out]; exact h6
          have hnx : Hid (x.length = n12) := by show x.length = n12; rw [← hx.out, List.length_take, List.length_append, hn1e.out, hn2e.out, hn12.out]; omega
          go_wp2_with fail
          have hr := lit1 .i64 3 w6 0
          obtain ⟨h7, ha⟩ := h6.lit (.cells #[.int .i64 0] 3)
          have hb7 : Below B w (w6.alloc (.cells #[.int .i64 0] 3)) := hb6.alloc (by have := h6.env.le; omega) _
          generalize w6.alloc (.cells #[.int .i64 0] 3) = w7 at h7 hr hb7 ⊢
          refine (wCrash B sb _ 1 1 [0] w7 F6 _ _ _ h7 (by simp) hr ⟨by omega, by omega⟩ ha).mono ?_
          rintro e w8 ⟨rfl, h8, hk8⟩
          have hb8 := hb7.trans (h7.belowB hk8)
          generalize Grow F6 w7 w8 = F8 at h8
          clear hk8 h7 hb7 hr ha h6 hb6
          rw [crash_synced] at h8
          go_wp2_with fail
          have hrd := wRead B sb nF w8 F8 _ _ h8 (by decide)
          rw [dfound_one nF _ valid_f] at hrd
          dsimp only at hrd
          refine hrd.mono ?_
          rintro e w11 ⟨A11, cp11, rfl, hr11, hk11⟩
          have hb11 := hb8.trans (hk11.mono h8.env.le)
          have h11 := h8.at_.below hk11
          rw [hnx.out] at hr11 ⊢
          have hra11 : RS (kInt .u8) w11 G A1 n1 a := hra.keep fun k hk _ => hb11.block k (hOld k hk)
          have hrb11 : RS (kInt .u8) w11 G A2 n2 b := hrb.keep fun k hk _ => hb11.block k (hOld k hk)
          obtain ⟨sX, hsX⟩ : ∃ s, Hid (strOfNums x = s) := ⟨_, rfl⟩
          have hext : sS.extract 0 n12 = sX := by rw [← hsS.out, ← hsX.out, ← hx.out, strOfNums_take]
          have t1 := hra11.str (P := Tryd.prog) 26 9 5 c1 Tryd.underlying26 Tryd.underlying5 Tryd.underlying9
          have t2 := hrb11.str (P := Tryd.prog) 26 9 5 c2 Tryd.underlying26 Tryd.underlying5 Tryd.underlying9
          have t4 := fun n => (hr11.keep (W' := w11.drewN n) fun _ _ _ => rfl).str (P := Tryd.prog) 26 9 5 cp11 Tryd.underlying26 Tryd.underlying5 Tryd.underlying9
          rw [hsA.out] at t1
          rw [hsB.out] at t2
          rw [hsX.out] at t4
          have hlo := Lib.hid (fun n => loose_q sb nF (w11.drewN n) F8 _ _ 0 (h11.keep (W' := w11.drewN n) fun _ _ _ => rfl) (loose_one nF _))
          have hus := Lib.hid (fun n => used_q sb (w11.drewN n) F8 _ _ n12 (h11.keep (W' := w11.drewN n) fun _ _ _ => rfl) ((osum_one _ _).trans hnx.out))
          have HB := Lib.hid hb11
          clear hb11 hrd hr11 hra11 hrb11 hk11 h8 hb8 h11
          go_wp2_with fail
          go_quiet (first
            | (go_at_call 15; exact Calls.quiet_of_same (num_q _ _))
            | (go_at_call 18; exact Calls.quiet_of_same (hlo.out _))
            | (go_at_call 16; exact Calls.quiet_of_same (hus.out _)))
          go_wp2
          go_ret
          exact ⟨rfl, HB.out.os, HB.out.tape, HB.out.output, HB.out.size, HB.out.block⟩
        · obtain ⟨q, rfl⟩ : ∃ q : Nat, n = (q : Int) := ⟨n.toNat, by omega⟩
          have hK : Hid (clampN q n12 = q) := by show clampN q n12 = q; unfold clampN; omega
          go_enter Tryd.func5, Tryd.ntmps5
          go_wp2_with fail
          refine HS.out.mono ?_
          rintro e w1 ⟨rfl, hb1⟩
          have hE1 := HE0.out.step hb1
          go_wp2_with fail
          refine (wNew B 1000 w1 hE1 (by omega) (by omega)).mono ?_
          rintro e w2 ⟨sb, rfl, h2, hb2⟩
          have hb2 := hb1.trans (hb2.mono hE1.le)
          generalize New w1 w2 = F2 at h2
          have h2 : DW B w2 F2 sb 1000 [] := h2
          clear hb1 hE1
          go_wp2_with fail
          have hra2 : RS (kInt .u8) w2 G A1 n1 a := hra.keep fun k hk _ => hb2.block k (hOld k hk)
          refine (wApp B sb nF A1 n1 c1 a w2 F2 G _ _ h2 (by decide) hra2 hc1 (fun k h1 h2' => by have := h2.fb k h2'; have := hOld k h1; omega) (by simp [osum]; omega)).mono ?_
          rintro e w3 ⟨rfl, h3, hk3⟩
          have hb3 := hb2.trans (h2.belowB hk3)
          generalize Grow F2 w2 w3 = F3 at h3
          clear hk3 h2 hb2 hra2
          have hp := app_new nF a n1 1000 valid_f hn1e.out (by omega)
          rw [hp.2] at h3
          rw [hp.1]
          clear hp
          go_wp2_with fail
          refine (wSync B sb nF w3 F3 _ _ h3 (by decide)).mono ?_
          rintro e w4 ⟨rfl, h4, hk4⟩
          have hb4 := hb3.trans (h3.belowB hk4)
          generalize Grow F3 w3 w4 = F4 at h4
          clear hk4 h3 hb3
          rw [sync_one nF _ valid_f] at h4
          rw [dfound_one nF _ valid_f]
          go_wp2_with fail
          have hrb4 : RS (kInt .u8) w4 G A2 n2 b := hrb.keep fun k hk _ => hb4.block k (hOld k hk)
          refine (wApp B sb nF A2 n2 c2 b w4 F4 G _ _ h4 (by decide) hrb4 hc2 (fun k h1 h2' => by have := h4.fb k h2'; have := hOld k h1; omega) (by simp [osum, flen]; rw [hn1e.out]; omega)).mono ?_
          rintro e w5 ⟨rfl, h5, hk5⟩
          have hb5 := hb4.trans (h4.belowB hk5)
          generalize Grow F4 w4 w5 = F5 at h5
          clear hk5 h4 hb4 hrb4
          have hp := app_one nF b a 0 n2 1000 valid_f hn2e.out (by rw [hn1e.out]; omega)
          rw [hp.2] at h5
          rw [hp.1]
          clear hp
          go_wp2_with fail
          refine (wCut B sb nF (q : Int) w5 F5 _ _ h5 (by decide) (by omega) (by omega)).mono ?_
          rintro e w6 ⟨rfl, h6, hk6⟩
          have hb6 := hb5.trans (h5.belowB hk6)
          generalize Grow F5 w5 w6 = F6 at h6
          clear hk6 h5 hb5
          rw [cut_one nF _ _ valid_f, show ((a ++ b, 0 + n2) : List Int × Nat).1.length = n12 by show (a ++ b).length = n12; rw [List.length_append, hn1e.out, hn2e.out, hn12.out], hK.out] at h6
          rw [dfound_one nF _ valid_f]
          obtain ⟨x, hx⟩ : ∃ x, Hid ((a ++ b).take q = x) := ⟨_, rfl⟩
          have h6 : DW B w6 F6 sb 1000 [(nF, (x, 0))] := by rw [← hx.out]; exact h6
          have hnx : Hid (x.length = q) := by show x.length = q; rw [← hx.out, List.length_take, List.length_append, hn1e.out, hn2e.out, hn12.out]; omega
          go_wp2_with fail
          have hr := lit1 .i64 3 w6 0
          obtain ⟨h7, ha⟩ := h6.lit (.cells #[.int .i64 0] 3)
          have hb7 : Below B w (w6.alloc (.cells #[.int .i64 0] 3)) := hb6.alloc (by have := h6.env.le; omega) _
          generalize w6.alloc (.cells #[.int .i64 0] 3) = w7 at h7 hr hb7 ⊢
          refine (wCrash B sb _ 1 1 [0] w7 F6 _ _ _ h7 (by simp) hr ⟨by omega, by omega⟩ ha).mono ?_
          rintro e w8 ⟨rfl, h8, hk8⟩
          have hb8 := hb7.trans (h7.belowB hk8)
          generalize Grow F6 w7 w8 = F8 at h8
          clear hk8 h7 hb7 hr ha h6 hb6
          rw [crash_synced] at h8
          go_wp2_with fail
          have hrd := wRead B sb nF w8 F8 _ _ h8 (by decide)
          rw [dfound_one nF _ valid_f] at hrd
          dsimp only at hrd
          refine hrd.mono ?_
          rintro e w11 ⟨A11, cp11, rfl, hr11, hk11⟩
          have hb11 := hb8.trans (hk11.mono h8.env.le)
          have h11 := h8.at_.below hk11
          rw [hnx.out] at hr11 ⊢
          have hra11 : RS (kInt .u8) w11 G A1 n1 a := hra.keep fun k hk _ => hb11.block k (hOld k hk)
          have hrb11 : RS (kInt .u8) w11 G A2 n2 b := hrb.keep fun k hk _ => hb11.block k (hOld k hk)
          obtain ⟨sX, hsX⟩ : ∃ s, Hid (strOfNums x = s) := ⟨_, rfl⟩
          have hext : sS.extract 0 q = sX := by rw [← hsS.out, ← hsX.out, ← hx.out, strOfNums_take]
          have t1 := hra11.str (P := Tryd.prog) 26 9 5 c1 Tryd.underlying26 Tryd.underlying5 Tryd.underlying9
          have t2 := hrb11.str (P := Tryd.prog) 26 9 5 c2 Tryd.underlying26 Tryd.underlying5 Tryd.underlying9
          have t4 := fun n => (hr11.keep (W' := w11.drewN n) fun _ _ _ => rfl).str (P := Tryd.prog) 26 9 5 cp11 Tryd.underlying26 Tryd.underlying5 Tryd.underlying9
          rw [hsA.out] at t1
          rw [hsB.out] at t2
          rw [hsX.out] at t4
          have hlo := Lib.hid (fun n => loose_q sb nF (w11.drewN n) F8 _ _ 0 (h11.keep (W' := w11.drewN n) fun _ _ _ => rfl) (loose_one nF _))
          have hus := Lib.hid (fun n => used_q sb (w11.drewN n) F8 _ _ q (h11.keep (W' := w11.drewN n) fun _ _ _ => rfl) ((osum_one _ _).trans hnx.out))
          have HB := Lib.hid hb11
          clear hb11 hrd hr11 hra11 hrb11 hk11 h8 hb8 h11
          go_wp2_with fail
          go_quiet (first
            | (go_at_call 15; exact Calls.quiet_of_same (num_q _ _))
            | (go_at_call 18; exact Calls.quiet_of_same (hlo.out _))
            | (go_at_call 16; exact Calls.quiet_of_same (hus.out _)))
          go_wp2
          go_ret
          exact ⟨rfl, HB.out.os, HB.out.tape, HB.out.output, HB.out.size, HB.out.block⟩
    · have l2 : 300 < b.length := by omega
      have l1 : ¬ (300 < a.length) := by omega
      clear hn2 hn1
      go_enter Tryd.func5, Tryd.ntmps5
      go_wp2_with fail
      refine HS.out.mono ?_
      rintro e w1 ⟨rfl, hb1⟩
      go_wp2
      go_ret
      exact ⟨rfl, hb1⟩
  · have l1 : 300 < a.length := by omega
    clear hn1
    go_enter Tryd.func5, Tryd.ntmps5
    go_wp2_with fail
    refine HS.out.mono ?_
    rintro e w1 ⟨rfl, hb1⟩
    go_wp2
    go_ret
    exact ⟨rfl, hb1⟩
end Go.Proofs.YtfjndjbpgcggkaaDoor
