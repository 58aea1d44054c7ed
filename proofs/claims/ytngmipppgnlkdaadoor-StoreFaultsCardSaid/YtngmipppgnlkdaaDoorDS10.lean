/- The law StoreFaults, walked. -/
import Derived.Test.YtngmipppgnlkdaaDoorDS9
set_option linter.unusedVariables false
set_option linter.unusedSimpArgs false
namespace Go.Proofs.YtngmipppgnlkdaaDoor
open Go.RowKit

def oName : ByteArray := ⟨#[111]⟩
theorem found_o (x : List Int) : found oName [(oName, x)] = (x, 0) := by
  unfold found
  rw [show validName oName = true from valid_o]
  simp [look]
theorem found_o0 : found oName [] = ([], 8) := by
  unfold found
  rw [show validName oName = true from valid_o]
  simp [look]
theorem put_o0 (x : List Int) (room : Int) (h : (x.length : Int) ≤ room) : putErr oName x room [] = 0 ∧ putC oName x room [] = [(oName, x)] := by
  have he : putErr oName x room [] = 0 := by
    unfold putErr
    rw [show validName oName = true from valid_o, if_neg (by decide), if_neg (by simp [szOf, look, tot]; omega)]
  exact ⟨he, by unfold putC; rw [he]; rfl⟩
theorem put_o1 (x y : List Int) (room : Int) (h : (x.length : Int) ≤ room) : putErr oName x room [(oName, y)] = 0 ∧ putC oName x room [(oName, y)] = [(oName, x)] := by
  have he : putErr oName x room [(oName, y)] = 0 := by
    unfold putErr
    rw [show validName oName = true from valid_o, if_neg (by decide), if_neg (by simp [szOf, look, tot]; omega)]
  refine ⟨he, ?_⟩
  unfold putC
  rw [he]
  simp [oput, look, oset]
theorem drop_o (x : List Int) : dropC oName [(oName, x)] = [] := by
  unfold dropC
  rw [found_o]
  simp [odel]
theorem get_o (x : List Int) : getE 0 oName [(oName, x)] = 0 ∧ getB 0 oName [(oName, x)] = x := by
  have h : getE 0 oName [(oName, x)] = 0 := by unfold getE; rw [found_o]; rfl
  exact ⟨h, by unfold getB; rw [h, found_o]; rfl⟩
theorem get_o0 : getE 0 oName [] = 8 ∧ getB 0 oName [] = [] := by
  have h : getE 0 oName [] = 8 := by unfold getE; rw [found_o0]; rfl
  exact ⟨h, by unfold getB; rw [h]; rfl⟩

set_option maxHeartbeats 8000000 in
set_option maxRecDepth 100000 in
theorem Faults_law (A1 : Option Addr) (c1 : Nat) (a : List Int) (A2 : Option Addr) (c2 : Nat) (b : List Int) (fault : Int) (w : World) (hra : RS (kInt .u8) w (Old w) A1 a.length a) (hrb : RS (kInt .u8) w (Old w) A2 b.length b) (hT : TabsBelow w.heap.size w) :
    Calls Tryd.prog 4 #[.slice A1 a.length c1, .slice A2 b.length c2, .int .i64 fault] w fun e w' => e = .returned (.bool true) ∧ Below w.heap.size w w' := by
  have hE0 : Env w.heap.size w := ⟨hT, Nat.le_refl _⟩
  have HS := Lib.hid (salive_any w hT)
  obtain ⟨B, hB⟩ : ∃ B, Hid (w.heap.size = B) := ⟨_, rfl⟩
  have hOld : ∀ k, Old w k → k < B := fun k hk => by rw [← hB.out]; exact hk
  generalize Old w = G at hra hrb hOld
  rw [hB.out] at hE0 HS ⊢
  clear hT
  have HE0 := Lib.hid hE0
  clear hE0
  by_cases hn1 : a.length ≤ 200
  · by_cases hn2 : b.length ≤ 200
    · obtain ⟨n1, hn1e⟩ : ∃ n, Hid (a.length = n) := ⟨_, rfl⟩
      obtain ⟨n2, hn2e⟩ : ∃ n, Hid (b.length = n) := ⟨_, rfl⟩
      rw [hn1e.out] at hra hn1 ⊢
      rw [hn2e.out] at hrb hn2 ⊢
      have l1 : ¬ (200 < n1) := by omega
      have l2 : ¬ (200 < n2) := by omega
      go_enter Tryd.func4, Tryd.ntmps4
      go_wp2_with fail
      refine HS.out.mono ?_
      rintro e w1 ⟨rfl, hb1⟩
      have hE1 := HE0.out.step hb1
      go_wp2_with fail
      refine (sNew B 500 w1 hE1 (by omega) (by omega)).mono ?_
      rintro e w2 ⟨sb, rfl, h2, hb2⟩
      have hb2 := hb1.trans (hb2.mono hE1.le)
      generalize New w1 w2 = F2 at h2
      clear hb1 hE1
      go_wp2_with fail
      have hra2 : RS (kInt .u8) w2 G A1 n1 a := hra.keep fun k hk _ => hb2.block k (hOld k hk)
      refine (sPut B sb oName A1 n1 c1 a w2 F2 G _ _ _ h2 (by decide) hra2 (fun k h1 h2' => by have := h2.fb k h2'; have := hOld k h1; omega) (by omega) (by simp [tot]; omega)).mono ?_
      rintro e w3 ⟨rfl, h3, hk3⟩
      have hb3 := hb2.trans (h2.belowB hk3)
      generalize Grow F2 w2 w3 = F3 at h3
      clear hk3 h2 hb2 hra2
      have hp := put_o0 a (max 0 500) (by rw [hn1e.out]; omega)
      rw [how_nil, doC_0, hp.2] at h3
      rw [how_nil, toldE_0, hp.1]
      clear hp
      have h3 : SW B w3 F3 sb 500 [] [(oName, a)] := h3
      go_wp2_with fail
      have hr := lit1 .i64 3 w3 fault
      obtain ⟨h4, ha⟩ := h3.lit (.cells #[.int .i64 fault] 3)
      have hb4 : Below B w (w3.alloc (.cells #[.int .i64 fault] 3)) := hb3.alloc (by have := h3.env.le; omega) _
      generalize w3.alloc (.cells #[.int .i64 fault] 3) = w4 at h4 hr hb4 ⊢
      refine (sFail B sb _ 1 1 [fault] w4 F3 _ _ _ _ h4 hr ha (by simp)).mono ?_
      rintro e w5 ⟨rfl, h5, hk5⟩
      have hb5 := hb4.trans (h4.belowB hk5)
      generalize Grow F3 w4 w5 = F5 at h5
      clear hk5 h4 hb4 hr ha h3 hb3
      go_wp2_with fail
      have hrb5 : RS (kInt .u8) w5 G A2 n2 b := hrb.keep fun k hk _ => hb5.block k (hOld k hk)
      refine (sPut B sb oName A2 n2 c2 b w5 F5 G _ _ _ h5 (by decide) hrb5 (fun k h1 h2' => by have := h5.fb k h2'; have := hOld k h1; omega) (by omega) (by simp [tot]; rw [hn1e.out]; omega)).mono ?_
      rintro e w6 ⟨rfl, h6, hk6⟩
      have hb6 := hb5.trans (h5.belowB hk6)
      generalize Grow F5 w5 w6 = F6 at h6
      clear hk6 h5 hb5 hrb5
      have hp := put_o1 b a 500 (by rw [hn2e.out]; omega)
      rw [hp.2] at h6
      rw [hp.1]
      clear hp
      obtain ⟨x, hx⟩ : ∃ x, Hid (doC fault [(oName, a)] [(oName, b)] = [(oName, x)] ∧ x = (if fault ≠ 0 ∧ fault ≠ 2 then a else b)) := ⟨_, by
        refine ⟨?_, rfl⟩
        unfold doC
        split <;> rfl⟩
      have h6 : SW B w6 F6 sb 500 [] [(oName, x)] := by rw [← hx.out.1]; exact h6
      obtain ⟨fE, hfE⟩ : ∃ fE, Hid (toldE fault 0 = fE) := ⟨_, rfl⟩
      rw [show how ([] ++ [fault]) = fault from rfl, hfE.out]
      go_wp2_with fail
      refine (sGet B sb oName w6 F6 _ _ _ h6 (by decide)).mono ?_
      rintro e w7 ⟨A7, c7, rfl, hr7, h7, hk7⟩
      have hb7 := hb6.trans (h6.belowB hk7)
      have hN7 : Apart (New w6 w7) F6 := fun k h1 h2' => by have := h6.fin k h2'; have := h1.1; omega
      generalize New w6 w7 = G7 at hr7 hN7
      clear hk7 h6 hb6
      have hg := get_o x
      simp only [how_nil, List.tail] at hr7 h7 ⊢
      rw [hg.2] at hr7
      rw [hg.1, hg.2]
      clear hg
      obtain ⟨n7, hn7⟩ : ∃ n7, Hid (x.length = n7) := ⟨_, rfl⟩
      rw [hn7.out] at hr7 ⊢
      go_wp2_with fail
      have hr := lit1 .i64 3 w7 fault
      obtain ⟨h8, ha⟩ := h7.lit (.cells #[.int .i64 fault] 3)
      have hb8 : Below B w (w7.alloc (.cells #[.int .i64 fault] 3)) := hb7.alloc (by have := h7.env.le; omega) _
      have hr8 := hr7.alloc (.cells #[.int .i64 fault] 3)
      generalize w7.alloc (.cells #[.int .i64 fault] 3) = w8 at h8 hr hb8 hr8 ⊢
      refine (sFail B sb _ 1 1 [fault] w8 F6 _ _ _ _ h8 hr ha (by simp)).mono ?_
      rintro e w9 ⟨rfl, h9, hk9⟩
      have hb9 := hb8.trans (h8.belowB hk9)
      have hr9 := hr8.keeps hk9 hN7
      clear hr9
      have hN9 : Apart (fun k => G7 k ∧ k < w8.heap.size) (Grow F6 w8 w9) := fun k h1 h2' => by
        rcases h2' with h2' | h2'
        · exact hN7 k h1.1 h2'
        · have := h1.2; have := h2'.1; omega
      have hr9 : RS (kInt .u8) w9 (fun k => G7 k ∧ k < w8.heap.size) A7 n7 x := (hr8.bound).keeps hk9 (fun k h1 => hN7 k h1.1)
      generalize (fun k => G7 k ∧ k < w8.heap.size) = G9 at hr9 hN9
      generalize Grow F6 w8 w9 = F9 at h9 hN9
      clear hk9 h8 hb8 hr ha h7 hb7 hr7 hr8 hN7
      go_wp2_with fail
      refine (sDelete B sb oName w9 F9 _ _ _ h9 (by decide)).mono ?_
      rintro e w10 ⟨rfl, h10, hk10⟩
      have hb10 := hb9.trans (h9.belowB hk10)
      have hN10 : Apart (fun k => G9 k ∧ k < w9.heap.size) (Grow F9 w9 w10) := fun k h1 h2' => by
        rcases h2' with h2' | h2'
        · exact hN9 k h1.1 h2'
        · have := h1.2; have := h2'.1; omega
      have hr10 : RS (kInt .u8) w10 (fun k => G9 k ∧ k < w9.heap.size) A7 n7 x := (hr9.bound).keeps hk10 (fun k h1 => hN9 k h1.1)
      generalize (fun k => G9 k ∧ k < w9.heap.size) = G10 at hr10 hN10
      generalize Grow F9 w9 w10 = F10 at h10 hN10
      clear hk10 h9 hb9 hr9 hN9
      rw [found_o x, show how ([] ++ [fault]) = fault from rfl, hfE.out]
      rw [drop_o x, show how ([] ++ [fault]) = fault from rfl] at h10
      have h10 : SW B w10 F10 sb 500 [] (doC fault [(oName, x)] []) := h10
      obtain ⟨iE, hiE⟩ : ∃ iE, Hid (getE 0 oName (doC fault [(oName, x)] []) = iE) := ⟨_, rfl⟩
      go_wp2_with fail
      refine (sGet B sb oName w10 F10 _ _ _ h10 (by decide)).mono ?_
      rintro e w11 ⟨A11, c11, rfl, hr11, h11, hk11⟩
      have hb11 := hb10.trans (h10.belowB hk11)
      have hrb11 : RS (kInt .u8) w11 G A2 n2 b := hrb.keep fun k hk _ => hb11.block k (hOld k hk)
      have hra11 : RS (kInt .u8) w11 G A1 n1 a := hra.keep fun k hk _ => hb11.block k (hOld k hk)
      have hsa := hra11.str (P := Tryd.prog) 30 9 5 c1 Tryd.underlying30 Tryd.underlying5 Tryd.underlying9
      have hsb := hrb11.str (P := Tryd.prog) 30 9 5 c2 Tryd.underlying30 Tryd.underlying5 Tryd.underlying9
      have hr12 := hr10.keeps hk11 hN10
      have hsx := hr12.str (P := Tryd.prog) 30 9 5 c7 Tryd.underlying30 Tryd.underlying5 Tryd.underlying9
      rw [show how ([] : List Int) = 0 from rfl, hiE.out]
      generalize (getB 0 oName (doC fault [(oName, x)] [])).length = n11
      clear hra11 hrb11 hr11 h11 hk11 h10 hb10 hr10 hr12
      have HB := Lib.hid hb11
      clear hb11
      by_cases f0 : fault = 0
      · subst f0
        have e1 : fE = 0 := by rw [← hfE.out]; rfl
        have e2 : x = b := by rw [hx.out.2]; rfl
        have e3 : iE = 8 := by rw [← hiE.out]; exact get_o0.1
        subst e1 e2 e3
        go_wp2
        go_ret
        exact ⟨rfl, HB.out⟩
      · by_cases f2 : fault = 2
        · subst f2
          have e1 : fE = 9 := by rw [← hfE.out]; rfl
          have e2 : x = b := by rw [hx.out.2]; rfl
          have e3 : iE = 8 := by rw [← hiE.out]; exact get_o0.1
          subst e1 e2 e3
          go_wp2
          go_ret
          exact ⟨rfl, HB.out⟩
        · have e1 : fE = 9 := by rw [← hfE.out]; unfold toldE; rw [if_pos ⟨f0, f2⟩]
          have e2 : x = a := by rw [hx.out.2, if_pos ⟨f0, f2⟩]
          have e3 : iE = 0 := by rw [← hiE.out]; unfold doC; rw [if_pos ⟨f0, f2⟩]; exact (get_o x).1
          have b0 : (fault == 0) = false := by rw [beq_eq_false_iff_ne]; exact f0
          have b2 : (fault == 2) = false := by rw [beq_eq_false_iff_ne]; exact f2
          subst e1 e2 e3
          clear f0 f2
          go_wp2
          go_ret
          exact ⟨rfl, HB.out⟩
    · have l2 : 200 < b.length := by omega
      have l1 : ¬ (200 < a.length) := by omega
      clear hn2 hn1
      go_enter Tryd.func4, Tryd.ntmps4
      go_wp2_with fail
      refine HS.out.mono ?_
      rintro e w1 ⟨rfl, hb1⟩
      go_wp2
      go_ret
      exact ⟨rfl, hb1⟩
  · have l1 : 200 < a.length := by omega
    clear hn1
    go_enter Tryd.func4, Tryd.ntmps4
    go_wp2_with fail
    refine HS.out.mono ?_
    rintro e w1 ⟨rfl, hb1⟩
    go_wp2
    go_ret
    exact ⟨rfl, hb1⟩
end Go.Proofs.YtngmipppgnlkdaaDoor
