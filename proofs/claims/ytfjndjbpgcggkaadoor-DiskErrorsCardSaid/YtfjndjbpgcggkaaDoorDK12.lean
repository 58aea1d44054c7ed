/- The law DiskSynced, walked. Printed by gen_dk12.py (own work). -/
import Derived.Test.YtfjndjbpgcggkaaDoorDK11
import Derived.BigQuiet
set_option linter.unusedVariables false
set_option linter.unusedSimpArgs false
namespace Go.Proofs.YtfjndjbpgcggkaaDoor
open Go.RowKit

theorem num_q (n : Int) (w : World) : Calls Tryd.prog 15 #[.int .i64 n] w fun e w' => e = .returned (.int .i64 n) ∧ w' = w :=
  (num_any n w).mono fun _ _ h => ⟨h.1, h.2.symm⟩
theorem app_new (s : ByteArray) (b : List Int) (n : Nat) (room : Int) (hv : validName s = true) (hn : b.length = n) (hr : (n : Int) ≤ room) : dappE s n room [] = 0 ∧ dappC s b room [] = [(s, (b, n))] := by
  subst hn
  have he : dappE s b.length room [] = 0 := by unfold dappE; rw [hv, if_neg (by decide), if_neg (by simp [osum]; omega)]
  refine ⟨he, ?_⟩
  unfold dappC
  rw [if_pos he, dfound_nil s hv, oput_nil]
  simp
theorem app_one (s : ByteArray) (b x : List Int) (z n : Nat) (room : Int) (hv : validName s = true) (hn : b.length = n) (hr : (x.length : Int) + n ≤ room) : dappE s n room [(s, (x, z))] = 0 ∧ dappC s b room [(s, (x, z))] = [(s, (x ++ b, z + n))] := by
  subst hn
  have he : dappE s b.length room [(s, (x, z))] = 0 := by unfold dappE; rw [hv, if_neg (by decide), if_neg (by simp [osum, flen]; omega)]
  refine ⟨he, ?_⟩
  unfold dappC
  rw [if_pos he, dfound_one s _ hv, oput_one]
theorem sync_one (s : ByteArray) (f : List Int × Nat) (hv : validName s = true) : dsyncC s [(s, f)] = [(s, (f.1, 0))] := by
  unfold dsyncC
  rw [dfound_one s _ hv, if_pos rfl, oput_one]
theorem loose_one (s : ByteArray) (f : List Int × Nat) : looseOf s [(s, f)] = f.2 := by simp [looseOf, look]
def nF : ByteArray := ⟨#[102]⟩
theorem valid_f : validName nF = true := by decide +kernel
/-- What a crash leaves of what was synced and what was not. -/
theorem crash_tail (s : ByteArray) (a b : List Int) (k : Int) (n2 q : Nat) (hb : b.length = n2) (hq : clampN k n2 = q) : crash [k] [(s, (a ++ b, 0 + n2))] = [(s, (a ++ b.take q, 0))] := by
  subst hb
  rw [crash_one]
  by_cases h : b.length = 0
  · obtain rfl : b = [] := List.eq_nil_of_length_eq_zero h
    simp
  · rw [if_neg (by simp only [Nat.zero_add]; exact h)]
    have : crashK [k] (0 + b.length) = q := by rw [Nat.zero_add]; exact hq
    rw [this]
    simp only [List.length_append, Nat.zero_add]
    rw [show a.length + b.length - b.length + q = a.length + q by omega, List.take_length_add_append]
theorem crash_synced (s : ByteArray) (a : List Int) (ks : List Int) : crash ks [(s, (a, 0))] = [(s, (a, 0))] := by
  rw [crash_one, if_pos rfl]
theorem strOfNums_append (a b : List Int) : strOfNums (a ++ b) = strOfNums a ++ strOfNums b := by
  rw [ByteArray.ext_iff]
  simp [strOfNums]
theorem lit2i (k : IntKind) (T : TypeId) (W : World) (x y : Int) : RS (kInt k) (W.alloc (.cells #[.int k x, .int k y] T)) (fun j => j = W.heap.size) (some ⟨W.heap.size, 0, none⟩) 2 [x, y] :=
  (RS.lit W (F := NoF) (xs := [x, y]) (Elems.append (Elems.single (K := kInt k) (cs := [.int k x]) rfl) (Elems.single (K := kInt k) (cs := [.int k y]) rfl))).mono fun j hj => hj.resolve_left id

set_option maxHeartbeats 8000000 in
set_option maxRecDepth 100000 in
theorem DSynced_law (A1 : Option Addr) (c1 : Nat) (a : List Int) (A2 : Option Addr) (c2 : Nat) (b : List Int) (keep : Int) (w : World) (hra : RS (kInt .u8) w (Old w) A1 a.length a) (hrb : RS (kInt .u8) w (Old w) A2 b.length b) (hc1 : a.length ≤ c1 ∧ c1 ≤ 9223372036854775807) (hc2 : b.length ≤ c2 ∧ c2 ≤ 9223372036854775807) (hT : TabsBelow w.heap.size w) :
    Calls Tryd.prog 4 #[.slice A1 a.length c1, .slice A2 b.length c2, .int .i64 keep] w fun e w' => e = .returned (.bool true) ∧ Below w.heap.size w w' := by
  have hE0 : Env w.heap.size w := ⟨hT, Nat.le_refl _⟩
  have HS := Lib.hid (dalive_any w hT)
  obtain ⟨B, hB⟩ : ∃ B, Hid (w.heap.size = B) := ⟨_, rfl⟩
  have hOld : ∀ k, Old w k → k < B := fun k hk => by rw [← hB.out]; exact hk
  generalize Old w = G at hra hrb hOld
  rw [hB.out] at hE0 HS ⊢
  clear hT
  have HE0 := Lib.hid hE0
  clear hE0
  by_cases hn1 : a.length ≤ 300
  · by_cases hn2 : b.length ≤ 300
    · obtain ⟨n1, hn1e⟩ : ∃ n, Hid (a.length = n) := ⟨_, rfl⟩
      obtain ⟨n2, hn2e⟩ : ∃ n, Hid (b.length = n) := ⟨_, rfl⟩
      rw [hn1e.out] at hra hn1 hc1 ⊢
      rw [hn2e.out] at hrb hn2 hc2 ⊢
      have l1 : ¬ (300 < n1) := by omega
      have l2 : ¬ (300 < n2) := by omega
      by_cases g1 : keep < 0
      · have hK : Hid (clampN keep n2 = 0) := by show clampN keep n2 = 0; unfold clampN; omega
        go_enter Tryd.func4, Tryd.ntmps4
        go_wp2_with fail
        refine HS.out.mono ?_
        rintro e w1 ⟨rfl, hb1⟩
        have hE1 := HE0.out.step hb1
        go_wp2_with fail
        refine (wNew B 1000 w1 hE1 (by omega) (by omega)).mono ?_
        rintro e w2 ⟨sb, rfl, h2, hb2⟩
        have hb2 := hb1.trans (hb2.mono hE1.le)
        generalize New w1 w2 = F2 at h2
        have h2 : DW B w2 F2 sb 1000 [] := h2
        clear hb1 hE1
        go_wp2_with fail
        have hra2 : RS (kInt .u8) w2 G A1 n1 a := hra.keep fun k hk _ => hb2.block k (hOld k hk)
        refine (wApp B sb nF A1 n1 c1 a w2 F2 G _ _ h2 (by decide) hra2 hc1 (fun k h1 h2' => by have := h2.fb k h2'; have := hOld k h1; omega) (by simp [osum]; omega)).mono ?_
        rintro e w3 ⟨rfl, h3, hk3⟩
        have hb3 := hb2.trans (h2.belowB hk3)
        generalize Grow F2 w2 w3 = F3 at h3
        clear hk3 h2 hb2 hra2
        have hp := app_new nF a n1 1000 valid_f hn1e.out (by omega)
        rw [hp.2] at h3
        rw [hp.1]
        clear hp
        go_wp2_with fail
        refine (wSync B sb nF w3 F3 _ _ h3 (by decide)).mono ?_
        rintro e w4 ⟨rfl, h4, hk4⟩
        have hb4 := hb3.trans (h3.belowB hk4)
        generalize Grow F3 w3 w4 = F4 at h4
        clear hk4 h3 hb3
        rw [sync_one nF _ valid_f] at h4
        rw [dfound_one nF _ valid_f]
        go_wp2_with fail
        have hrb4 : RS (kInt .u8) w4 G A2 n2 b := hrb.keep fun k hk _ => hb4.block k (hOld k hk)
        refine (wApp B sb nF A2 n2 c2 b w4 F4 G _ _ h4 (by decide) hrb4 hc2 (fun k h1 h2' => by have := h4.fb k h2'; have := hOld k h1; omega) (by simp [osum, flen]; rw [hn1e.out]; omega)).mono ?_
        rintro e w5 ⟨rfl, h5, hk5⟩
        have hb5 := hb4.trans (h4.belowB hk5)
        generalize Grow F4 w4 w5 = F5 at h5
        clear hk5 h4 hb4 hrb4
        have hp := app_one nF b a 0 n2 1000 valid_f hn2e.out (by rw [hn1e.out]; omega)
        rw [hp.2] at h5
        rw [hp.1]
        clear hp
        go_wp2_with fail
        refine (dLoose_any sb nF w5 F5 _ _ h5.at_).mono ?_
        rintro e w6 ⟨rfl, rfl⟩
        rw [loose_one, show ((a ++ b, 0 + n2) : List Int × Nat).2 = n2 from Nat.zero_add n2]
        go_wp2_with fail
        have hr := lit1 .i64 3 w5 keep
        obtain ⟨h6, ha⟩ := h5.lit (.cells #[.int .i64 keep] 3)
        have hb6 : Below B w (w5.alloc (.cells #[.int .i64 keep] 3)) := hb5.alloc (by have := h5.env.le; omega) _
        generalize w5.alloc (.cells #[.int .i64 keep] 3) = w6 at h6 hr hb6 ⊢
        refine (wCrash B sb _ 1 1 [keep] w6 F5 _ _ _ h6 (by simp) hr ⟨by omega, by omega⟩ ha).mono ?_
        rintro e w7 ⟨rfl, h7, hk7⟩
        have hb7 := hb6.trans (h6.belowB hk7)
        generalize Grow F5 w6 w7 = F7 at h7
        clear hk7 h6 hb6 hr ha h5 hb5
        obtain ⟨x, hx⟩ : ∃ x, Hid (a ++ b.take 0 = x) := ⟨_, rfl⟩
        rw [crash_tail nF a b keep n2 0 hn2e.out hK.out, hx.out] at h7
        go_wp2_with fail
        have hrd := wRead B sb nF w7 F7 _ _ h7 (by decide)
        rw [dfound_one nF _ valid_f] at hrd
        dsimp only at hrd
        refine hrd.mono ?_
        rintro e w8 ⟨A8, cp8, rfl, hr8, hk8⟩
        have h8 := h7.below hk8
        have hb8 := hb7.trans (hk8.mono h7.env.le)
        have hN8 : Apart (New w7 w8) F7 := fun k h1 h2' => by have := h7.fin k h2'; have := h1.1; omega
        generalize New w7 w8 = G8 at hr8 hN8
        obtain ⟨nx, hnx⟩ : ∃ n, Hid (x.length = n) := ⟨_, rfl⟩
        rw [hnx.out] at hr8 ⊢
        clear hrd hk8 h7 hb7
        go_wp2_with fail
        have hr := lit2i .i64 3 w8 0 0
        obtain ⟨h9, ha⟩ := h8.lit (.cells #[.int .i64 0, .int .i64 0] 3)
        have hb9 : Below B w (w8.alloc (.cells #[.int .i64 0, .int .i64 0] 3)) := hb8.alloc (by have := h8.env.le; omega) _
        have hr9 := hr8.alloc (.cells #[.int .i64 0, .int .i64 0] 3)
        generalize w8.alloc (.cells #[.int .i64 0, .int .i64 0] 3) = w9 at h9 hr hb9 hr9 ⊢
        refine (wCrash B sb _ 2 2 [0, 0] w9 F7 _ _ _ h9 (by simp) hr ⟨by omega, by omega⟩ ha).mono ?_
        rintro e w10 ⟨rfl, h10, hk10⟩
        have hb10 := hb9.trans (h9.belowB hk10)
        have hr10 : RS (kInt .u8) w10 G8 A8 nx x := hr9.keeps hk10 hN8
        generalize Grow F7 w9 w10 = F10 at h10
        clear hk10 h9 hb9 hr ha h8 hb8 hr8 hr9 hN8
        rw [crash_synced] at h10
        go_wp2_with fail
        have hrd := wRead B sb nF w10 F10 _ _ h10 (by decide)
        rw [dfound_one nF _ valid_f] at hrd
        dsimp only at hrd
        refine hrd.mono ?_
        rintro e w11 ⟨A11, cp11, rfl, hr11, hk11⟩
        have hb11 := hb10.trans (hk11.mono h10.env.le)
        rw [hnx.out] at hr11 ⊢
        have hr12 : RS (kInt .u8) w11 (fun k => G8 k ∧ k < w10.heap.size) A8 nx x := hr10.bound.below hk11
        have hra11 : RS (kInt .u8) w11 G A1 n1 a := hra.keep fun k hk _ => hb11.block k (hOld k hk)
        have hrb11 : RS (kInt .u8) w11 G A2 0 (b.take 0) := (hrb.keep (W' := w11) fun k hk _ => hb11.block k (hOld k hk)).take_ 0 (by omega)
        obtain ⟨sA, hsA⟩ : ∃ s, Hid (strOfNums a = s) := ⟨_, rfl⟩
        obtain ⟨sW, hsW⟩ : ∃ s, Hid (strOfNums (b.take 0) = s) := ⟨_, rfl⟩
        have hsx : strOfNums x = sA ++ sW := by rw [← hx.out, strOfNums_append, hsA.out, hsW.out]
        have t1 := fun n => (hra11.keep (W' := w11.drewN n) fun _ _ _ => rfl).str (P := Tryd.prog) 26 9 5 c1 Tryd.underlying26 Tryd.underlying5 Tryd.underlying9
        have t2 := fun n => (hrb11.keep (W' := w11.drewN n) fun _ _ _ => rfl).str (P := Tryd.prog) 26 9 5 c2 Tryd.underlying26 Tryd.underlying5 Tryd.underlying9
        have t3 := fun n => (hr12.keep (W' := w11.drewN n) fun _ _ _ => rfl).str (P := Tryd.prog) 26 9 5 cp8 Tryd.underlying26 Tryd.underlying5 Tryd.underlying9
        have t4 := fun n => (hr11.keep (W' := w11.drewN n) fun _ _ _ => rfl).str (P := Tryd.prog) 26 9 5 cp11 Tryd.underlying26 Tryd.underlying5 Tryd.underlying9
        have z1 : sA.size ≤ 300 := by rw [← hsA.out, strOfNums_size, hn1e.out]; exact hn1
        have z2 : sW.size ≤ 300 := by rw [← hsW.out, strOfNums_size, List.length_take, hn2e.out]; omega
        rw [hsA.out] at t1
        rw [hsW.out] at t2
        rw [hsx] at t3 t4
        have t5 := cut_hi tBytes .i64 A2 n2 c2 0 (by omega)
        have HB := Lib.hid hb11
        clear hb11 hrd hr11 hr12 hra11 hrb11 hk11 h10 hb10 hr10 hsx
        go_wp2_with fail
        go_quiet ((go_at_call 15; exact Calls.quiet_of_same (num_q _ _)))
        go_wp2
        go_ret
        exact ⟨rfl, HB.out.os, HB.out.tape, HB.out.output, HB.out.size, HB.out.block⟩
      · by_cases g2 : (n2 : Int) < keep
        · have hK : Hid (clampN keep n2 = n2) := by show clampN keep n2 = n2; unfold clampN; omega
          go_enter Tryd.func4, Tryd.ntmps4
          go_wp2_with fail
          refine HS.out.mono ?_
          rintro e w1 ⟨rfl, hb1⟩
          have hE1 := HE0.out.step hb1
          go_wp2_with fail
          refine (wNew B 1000 w1 hE1 (by omega) (by omega)).mono ?_
          rintro e w2 ⟨sb, rfl, h2, hb2⟩
          have hb2 := hb1.trans (hb2.mono hE1.le)
          generalize New w1 w2 = F2 at h2
          have h2 : DW B w2 F2 sb 1000 [] := h2
          clear hb1 hE1
          go_wp2_with fail
          have hra2 : RS (kInt .u8) w2 G A1 n1 a := hra.keep fun k hk _ => hb2.block k (hOld k hk)
          refine (wApp B sb nF A1 n1 c1 a w2 F2 G _ _ h2 (by decide) hra2 hc1 (fun k h1 h2' => by have := h2.fb k h2'; have := hOld k h1; omega) (by simp [osum]; omega)).mono ?_
          rintro e w3 ⟨rfl, h3, hk3⟩
          have hb3 := hb2.trans (h2.belowB hk3)
          generalize Grow F2 w2 w3 = F3 at h3
          clear hk3 h2 hb2 hra2
          have hp := app_new nF a n1 1000 valid_f hn1e.out (by omega)
          rw [hp.2] at h3
          rw [hp.1]
          clear hp
          go_wp2_with fail
          refine (wSync B sb nF w3 F3 _ _ h3 (by decide)).mono ?_
          rintro e w4 ⟨rfl, h4, hk4⟩
          have hb4 := hb3.trans (h3.belowB hk4)
          generalize Grow F3 w3 w4 = F4 at h4
          clear hk4 h3 hb3
          rw [sync_one nF _ valid_f] at h4
          rw [dfound_one nF _ valid_f]
          go_wp2_with fail
          have hrb4 : RS (kInt .u8) w4 G A2 n2 b := hrb.keep fun k hk _ => hb4.block k (hOld k hk)
          refine (wApp B sb nF A2 n2 c2 b w4 F4 G _ _ h4 (by decide) hrb4 hc2 (fun k h1 h2' => by have := h4.fb k h2'; have := hOld k h1; omega) (by simp [osum, flen]; rw [hn1e.out]; omega)).mono ?_
          rintro e w5 ⟨rfl, h5, hk5⟩
          have hb5 := hb4.trans (h4.belowB hk5)
          generalize Grow F4 w4 w5 = F5 at h5
          clear hk5 h4 hb4 hrb4
          have hp := app_one nF b a 0 n2 1000 valid_f hn2e.out (by rw [hn1e.out]; omega)
          rw [hp.2] at h5
          rw [hp.1]
          clear hp
          go_wp2_with fail
          refine (dLoose_any sb nF w5 F5 _ _ h5.at_).mono ?_
          rintro e w6 ⟨rfl, rfl⟩
          rw [loose_one, show ((a ++ b, 0 + n2) : List Int × Nat).2 = n2 from Nat.zero_add n2]
          go_wp2_with fail
          have hr := lit1 .i64 3 w5 keep
          obtain ⟨h6, ha⟩ := h5.lit (.cells #[.int .i64 keep] 3)
          have hb6 : Below B w (w5.alloc (.cells #[.int .i64 keep] 3)) := hb5.alloc (by have := h5.env.le; omega) _
          generalize w5.alloc (.cells #[.int .i64 keep] 3) = w6 at h6 hr hb6 ⊢
          refine (wCrash B sb _ 1 1 [keep] w6 F5 _ _ _ h6 (by simp) hr ⟨by omega, by omega⟩ ha).mono ?_
          rintro e w7 ⟨rfl, h7, hk7⟩
          have hb7 := hb6.trans (h6.belowB hk7)
          generalize Grow F5 w6 w7 = F7 at h7
          clear hk7 h6 hb6 hr ha h5 hb5
          obtain ⟨x, hx⟩ : ∃ x, Hid (a ++ b.take n2 = x) := ⟨_, rfl⟩
          rw [crash_tail nF a b keep n2 n2 hn2e.out hK.out, hx.out] at h7
          go_wp2_with fail
          have hrd := wRead B sb nF w7 F7 _ _ h7 (by decide)
          rw [dfound_one nF _ valid_f] at hrd
          dsimp only at hrd
          refine hrd.mono ?_
          rintro e w8 ⟨A8, cp8, rfl, hr8, hk8⟩
          have h8 := h7.below hk8
          have hb8 := hb7.trans (hk8.mono h7.env.le)
          have hN8 : Apart (New w7 w8) F7 := fun k h1 h2' => by have := h7.fin k h2'; have := h1.1; omega
          generalize New w7 w8 = G8 at hr8 hN8
          obtain ⟨nx, hnx⟩ : ∃ n, Hid (x.length = n) := ⟨_, rfl⟩
          rw [hnx.out] at hr8 ⊢
          clear hrd hk8 h7 hb7
          go_wp2_with fail
          have hr := lit2i .i64 3 w8 0 0
          obtain ⟨h9, ha⟩ := h8.lit (.cells #[.int .i64 0, .int .i64 0] 3)
          have hb9 : Below B w (w8.alloc (.cells #[.int .i64 0, .int .i64 0] 3)) := hb8.alloc (by have := h8.env.le; omega) _
          have hr9 := hr8.alloc (.cells #[.int .i64 0, .int .i64 0] 3)
          generalize w8.alloc (.cells #[.int .i64 0, .int .i64 0] 3) = w9 at h9 hr hb9 hr9 ⊢
          refine (wCrash B sb _ 2 2 [0, 0] w9 F7 _ _ _ h9 (by simp) hr ⟨by omega, by omega⟩ ha).mono ?_
          rintro e w10 ⟨rfl, h10, hk10⟩
          have hb10 := hb9.trans (h9.belowB hk10)
          have hr10 : RS (kInt .u8) w10 G8 A8 nx x := hr9.keeps hk10 hN8
          generalize Grow F7 w9 w10 = F10 at h10
          clear hk10 h9 hb9 hr ha h8 hb8 hr8 hr9 hN8
          rw [crash_synced] at h10
          go_wp2_with fail
          have hrd := wRead B sb nF w10 F10 _ _ h10 (by decide)
          rw [dfound_one nF _ valid_f] at hrd
          dsimp only at hrd
          refine hrd.mono ?_
          rintro e w11 ⟨A11, cp11, rfl, hr11, hk11⟩
          have hb11 := hb10.trans (hk11.mono h10.env.le)
          rw [hnx.out] at hr11 ⊢
          have hr12 : RS (kInt .u8) w11 (fun k => G8 k ∧ k < w10.heap.size) A8 nx x := hr10.bound.below hk11
          have hra11 : RS (kInt .u8) w11 G A1 n1 a := hra.keep fun k hk _ => hb11.block k (hOld k hk)
          have hrb11 : RS (kInt .u8) w11 G A2 n2 (b.take n2) := (hrb.keep (W' := w11) fun k hk _ => hb11.block k (hOld k hk)).take_ n2 (by omega)
          obtain ⟨sA, hsA⟩ : ∃ s, Hid (strOfNums a = s) := ⟨_, rfl⟩
          obtain ⟨sW, hsW⟩ : ∃ s, Hid (strOfNums (b.take n2) = s) := ⟨_, rfl⟩
          have hsx : strOfNums x = sA ++ sW := by rw [← hx.out, strOfNums_append, hsA.out, hsW.out]
          have t1 := fun n => (hra11.keep (W' := w11.drewN n) fun _ _ _ => rfl).str (P := Tryd.prog) 26 9 5 c1 Tryd.underlying26 Tryd.underlying5 Tryd.underlying9
          have t2 := fun n => (hrb11.keep (W' := w11.drewN n) fun _ _ _ => rfl).str (P := Tryd.prog) 26 9 5 c2 Tryd.underlying26 Tryd.underlying5 Tryd.underlying9
          have t3 := fun n => (hr12.keep (W' := w11.drewN n) fun _ _ _ => rfl).str (P := Tryd.prog) 26 9 5 cp8 Tryd.underlying26 Tryd.underlying5 Tryd.underlying9
          have t4 := fun n => (hr11.keep (W' := w11.drewN n) fun _ _ _ => rfl).str (P := Tryd.prog) 26 9 5 cp11 Tryd.underlying26 Tryd.underlying5 Tryd.underlying9
          have z1 : sA.size ≤ 300 := by rw [← hsA.out, strOfNums_size, hn1e.out]; exact hn1
          have z2 : sW.size ≤ 300 := by rw [← hsW.out, strOfNums_size, List.length_take, hn2e.out]; omega
          rw [hsA.out] at t1
          rw [hsW.out] at t2
          rw [hsx] at t3 t4
          have t5 := cut_hi tBytes .i64 A2 n2 c2 n2 (by omega)
          have HB := Lib.hid hb11
          clear hb11 hrd hr11 hr12 hra11 hrb11 hk11 h10 hb10 hr10 hsx
          go_wp2_with fail
          go_quiet ((go_at_call 15; exact Calls.quiet_of_same (num_q _ _)))
          go_wp2
          go_ret
          exact ⟨rfl, HB.out.os, HB.out.tape, HB.out.output, HB.out.size, HB.out.block⟩
        · obtain ⟨q, rfl⟩ : ∃ q : Nat, keep = (q : Int) := ⟨keep.toNat, by omega⟩
          have hK : Hid (clampN q n2 = q) := by show clampN q n2 = q; unfold clampN; omega
          go_enter Tryd.func4, Tryd.ntmps4
          go_wp2_with fail
          refine HS.out.mono ?_
          rintro e w1 ⟨rfl, hb1⟩
          have hE1 := HE0.out.step hb1
          go_wp2_with fail
          refine (wNew B 1000 w1 hE1 (by omega) (by omega)).mono ?_
          rintro e w2 ⟨sb, rfl, h2, hb2⟩
          have hb2 := hb1.trans (hb2.mono hE1.le)
          generalize New w1 w2 = F2 at h2
          have h2 : DW B w2 F2 sb 1000 [] := h2
          clear hb1 hE1
          go_wp2_with fail
          have hra2 : RS (kInt .u8) w2 G A1 n1 a := hra.keep fun k hk _ => hb2.block k (hOld k hk)
          refine (wApp B sb nF A1 n1 c1 a w2 F2 G _ _ h2 (by decide) hra2 hc1 (fun k h1 h2' => by have := h2.fb k h2'; have := hOld k h1; omega) (by simp [osum]; omega)).mono ?_
          rintro e w3 ⟨rfl, h3, hk3⟩
          have hb3 := hb2.trans (h2.belowB hk3)
          generalize Grow F2 w2 w3 = F3 at h3
          clear hk3 h2 hb2 hra2
          have hp := app_new nF a n1 1000 valid_f hn1e.out (by omega)
          rw [hp.2] at h3
          rw [hp.1]
          clear hp
          go_wp2_with fail
          refine (wSync B sb nF w3 F3 _ _ h3 (by decide)).mono ?_
          rintro e w4 ⟨rfl, h4, hk4⟩
          have hb4 := hb3.trans (h3.belowB hk4)
          generalize Grow F3 w3 w4 = F4 at h4
          clear hk4 h3 hb3
          rw [sync_one nF _ valid_f] at h4
          rw [dfound_one nF _ valid_f]
          go_wp2_with fail
          have hrb4 : RS (kInt .u8) w4 G A2 n2 b := hrb.keep fun k hk _ => hb4.block k (hOld k hk)
          refine (wApp B sb nF A2 n2 c2 b w4 F4 G _ _ h4 (by decide) hrb4 hc2 (fun k h1 h2' => by have := h4.fb k h2'; have := hOld k h1; omega) (by simp [osum, flen]; rw [hn1e.out]; omega)).mono ?_
          rintro e w5 ⟨rfl, h5, hk5⟩
          have hb5 := hb4.trans (h4.belowB hk5)
          generalize Grow F4 w4 w5 = F5 at h5
          clear hk5 h4 hb4 hrb4
          have hp := app_one nF b a 0 n2 1000 valid_f hn2e.out (by rw [hn1e.out]; omega)
          rw [hp.2] at h5
          rw [hp.1]
          clear hp
          go_wp2_with fail
          refine (dLoose_any sb nF w5 F5 _ _ h5.at_).mono ?_
          rintro e w6 ⟨rfl, rfl⟩
          rw [loose_one, show ((a ++ b, 0 + n2) : List Int × Nat).2 = n2 from Nat.zero_add n2]
          go_wp2_with fail
          have hr := lit1 .i64 3 w5 (q : Int)
          obtain ⟨h6, ha⟩ := h5.lit (.cells #[.int .i64 (q : Int)] 3)
          have hb6 : Below B w (w5.alloc (.cells #[.int .i64 (q : Int)] 3)) := hb5.alloc (by have := h5.env.le; omega) _
          generalize w5.alloc (.cells #[.int .i64 (q : Int)] 3) = w6 at h6 hr hb6 ⊢
          refine (wCrash B sb _ 1 1 [(q : Int)] w6 F5 _ _ _ h6 (by simp) hr ⟨by omega, by omega⟩ ha).mono ?_
          rintro e w7 ⟨rfl, h7, hk7⟩
          have hb7 := hb6.trans (h6.belowB hk7)
          generalize Grow F5 w6 w7 = F7 at h7
          clear hk7 h6 hb6 hr ha h5 hb5
          obtain ⟨x, hx⟩ : ∃ x, Hid (a ++ b.take q = x) := ⟨_, rfl⟩
          rw [crash_tail nF a b (q : Int) n2 q hn2e.out hK.out, hx.out] at h7
          go_wp2_with fail
          have hrd := wRead B sb nF w7 F7 _ _ h7 (by decide)
          rw [dfound_one nF _ valid_f] at hrd
          dsimp only at hrd
          refine hrd.mono ?_
          rintro e w8 ⟨A8, cp8, rfl, hr8, hk8⟩
          have h8 := h7.below hk8
          have hb8 := hb7.trans (hk8.mono h7.env.le)
          have hN8 : Apart (New w7 w8) F7 := fun k h1 h2' => by have := h7.fin k h2'; have := h1.1; omega
          generalize New w7 w8 = G8 at hr8 hN8
          obtain ⟨nx, hnx⟩ : ∃ n, Hid (x.length = n) := ⟨_, rfl⟩
          rw [hnx.out] at hr8 ⊢
          clear hrd hk8 h7 hb7
          go_wp2_with fail
          have hr := lit2i .i64 3 w8 0 0
          obtain ⟨h9, ha⟩ := h8.lit (.cells #[.int .i64 0, .int .i64 0] 3)
          have hb9 : Below B w (w8.alloc (.cells #[.int .i64 0, .int .i64 0] 3)) := hb8.alloc (by have := h8.env.le; omega) _
          have hr9 := hr8.alloc (.cells #[.int .i64 0, .int .i64 0] 3)
          generalize w8.alloc (.cells #[.int .i64 0, .int .i64 0] 3) = w9 at h9 hr hb9 hr9 ⊢
          refine (wCrash B sb _ 2 2 [0, 0] w9 F7 _ _ _ h9 (by simp) hr ⟨by omega, by omega⟩ ha).mono ?_
          rintro e w10 ⟨rfl, h10, hk10⟩
          have hb10 := hb9.trans (h9.belowB hk10)
          have hr10 : RS (kInt .u8) w10 G8 A8 nx x := hr9.keeps hk10 hN8
          generalize Grow F7 w9 w10 = F10 at h10
          clear hk10 h9 hb9 hr ha h8 hb8 hr8 hr9 hN8
          rw [crash_synced] at h10
          go_wp2_with fail
          have hrd := wRead B sb nF w10 F10 _ _ h10 (by decide)
          rw [dfound_one nF _ valid_f] at hrd
          dsimp only at hrd
          refine hrd.mono ?_
          rintro e w11 ⟨A11, cp11, rfl, hr11, hk11⟩
          have hb11 := hb10.trans (hk11.mono h10.env.le)
          rw [hnx.out] at hr11 ⊢
          have hr12 : RS (kInt .u8) w11 (fun k => G8 k ∧ k < w10.heap.size) A8 nx x := hr10.bound.below hk11
          have hra11 : RS (kInt .u8) w11 G A1 n1 a := hra.keep fun k hk _ => hb11.block k (hOld k hk)
          have hrb11 : RS (kInt .u8) w11 G A2 q (b.take q) := (hrb.keep (W' := w11) fun k hk _ => hb11.block k (hOld k hk)).take_ q (by omega)
          obtain ⟨sA, hsA⟩ : ∃ s, Hid (strOfNums a = s) := ⟨_, rfl⟩
          obtain ⟨sW, hsW⟩ : ∃ s, Hid (strOfNums (b.take q) = s) := ⟨_, rfl⟩
          have hsx : strOfNums x = sA ++ sW := by rw [← hx.out, strOfNums_append, hsA.out, hsW.out]
          have t1 := fun n => (hra11.keep (W' := w11.drewN n) fun _ _ _ => rfl).str (P := Tryd.prog) 26 9 5 c1 Tryd.underlying26 Tryd.underlying5 Tryd.underlying9
          have t2 := fun n => (hrb11.keep (W' := w11.drewN n) fun _ _ _ => rfl).str (P := Tryd.prog) 26 9 5 c2 Tryd.underlying26 Tryd.underlying5 Tryd.underlying9
          have t3 := fun n => (hr12.keep (W' := w11.drewN n) fun _ _ _ => rfl).str (P := Tryd.prog) 26 9 5 cp8 Tryd.underlying26 Tryd.underlying5 Tryd.underlying9
          have t4 := fun n => (hr11.keep (W' := w11.drewN n) fun _ _ _ => rfl).str (P := Tryd.prog) 26 9 5 cp11 Tryd.underlying26 Tryd.underlying5 Tryd.underlying9
          have z1 : sA.size ≤ 300 := by rw [← hsA.out, strOfNums_size, hn1e.out]; exact hn1
          have z2 : sW.size ≤ 300 := by rw [← hsW.out, strOfNums_size, List.length_take, hn2e.out]; omega
          rw [hsA.out] at t1
          rw [hsW.out] at t2
          rw [hsx] at t3 t4
          have t5 := cut_hi tBytes .i64 A2 n2 c2 q (by omega)
          have HB := Lib.hid hb11
          clear hb11 hrd hr11 hr12 hra11 hrb11 hk11 h10 hb10 hr10 hsx
          go_wp2_with fail
          go_quiet ((go_at_call 15; exact Calls.quiet_of_same (num_q _ _)))
          go_wp2
          go_ret
          exact ⟨rfl, HB.out.os, HB.out.tape, HB.out.output, HB.out.size, HB.out.block⟩
    · have l2 : 300 < b.length := by omega
      have l1 : ¬ (300 < a.length) := by omega
      clear hn2 hn1
      go_enter Tryd.func4, Tryd.ntmps4
      go_wp2_with fail
      refine HS.out.mono ?_
      rintro e w1 ⟨rfl, hb1⟩
      go_wp2
      go_ret
      exact ⟨rfl, hb1⟩
  · have l1 : 300 < a.length := by omega
    clear hn1
    go_enter Tryd.func4, Tryd.ntmps4
    go_wp2_with fail
    refine HS.out.mono ?_
    rintro e w1 ⟨rfl, hb1⟩
    go_wp2
    go_ret
    exact ⟨rfl, hb1⟩
end Go.Proofs.YtfjndjbpgcggkaaDoor
