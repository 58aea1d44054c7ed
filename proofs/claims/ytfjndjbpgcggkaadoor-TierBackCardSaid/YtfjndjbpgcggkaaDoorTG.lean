/- Big, num; the example of the document. -/
import Derived.Test.YtfjndjbpgcggkaaDoorTP
set_option linter.unusedVariables false
set_option linter.unusedSimpArgs false
namespace Go.Proofs.YtfjndjbpgcggkaaDoor
open Go.RowKit
attribute [local go_sem] Same.cell Same.frozen

def BigPost (n : Nat) (w : World) (e : Ending) (w' : World) : Prop := ∃ b : Bool, e = .returned (.bool b) ∧ (b = false → n ≤ 60) ∧ w' = w
set_option maxHeartbeats 4000000 in
set_option maxRecDepth 100000 in
theorem Big8_any (A : Option Addr) (n c : Nat) (l : List Record) (w : World) (F : Foot) (hr : RS kRecord w F A n l) (hn : n ≤ 140737488355328) :
    Calls Tryd.prog 41 #[.slice A n c] w (BigPost n w) := by
  have HL := Lib.hid hr.length
  have HR := Lib.hid hr
  clear hr
  go_enter Tryd.func41, Tryd.ntmps41
  go_wp2
  go_loopw [3] (fun q wr => ∃ i : Nat, q = .int .i64 i ∧ i ≤ n ∧ Hid (wr = w)) (fun q _ => n - (intOf q).toNat)
  case atStart => exact ⟨0, rfl, Nat.zero_le _, rfl⟩
  case round =>
    obtain ⟨i, rfl, hi, hwr⟩ := hrel
    by_cases hlt : i < n
    · obtain ⟨r, hx0⟩ : ∃ r, l[i]? = some r := ⟨_, List.getElem?_eq_getElem (by rw [HL.out]; exact hlt)⟩
      obtain ⟨ad, hA0, hFa, k0, k1, k2, k3, k4⟩ := at_Record HR.out hx0
      rw [← hwr.out] at k0 k1 k2 k3 k4
      subst hA0
      clear hx0
      by_cases h1 : 250 < r.Key.size
      · go_wp2
        go_ret
        exact ⟨true, rfl, (fun h => by cases h), hwr.out⟩
      by_cases h2 : 300 < r.Value.size
      · go_wp2
        go_ret
        exact ⟨true, rfl, (fun h => by cases h), hwr.out⟩
      · go_wp2
        go_roundw
        case rel => exact ⟨i + 1, by go_num, by omega, hwr.out⟩
        case measure => simp [intOf]; omega
    · have hin : i = n := by omega
      by_cases h6 : 60 < n
      · go_wp2
        go_ret
        exact ⟨true, by first | rfl | (simp; omega), (fun h => by cases h), hwr.out⟩
      · go_wp2
        go_ret
        exact ⟨false, by first | rfl | (simp; omega), fun _ => by omega, hwr.out⟩
theorem num22_any (n : Int) (w : World) : Calls Tryd.prog 46 #[.int .i64 n] w fun e w' => e = .returned (.int .i64 n) ∧ w' = w := by
  go_enter Tryd.func46, Tryd.ntmps46
  go_wp2
  go_ret
  exact ⟨rfl, rfl⟩

def rA : Record := ⟨3, 0, ⟨#[97]⟩, ⟨#[]⟩, false⟩
theorem rA_okay : rA.Okay := by decide +kernel
theorem rA_len : (segBytes [rA]).length ≤ 1000 ∧ 1 ≤ (segBytes [rA]).length := by
  have h := rA_okay
  have e : (segBytes [rA]).length = 11 := by
    rw [segBytes, if_pos h, segBytes, List.append_nil]
    decide +kernel
  omega
theorem name31 : objName 3 1 = ⟨#[115, 51, 46, 49]⟩ := by
  unfold objName
  rw [dec_small (by omega), dec_small (by omega)]
  decide +kernel
theorem from_rA : (recFrom [rA] 0 9).length = 1 := by decide +kernel

set_option maxHeartbeats 8000000 in
set_option maxRecDepth 100000 in
theorem tAlive_any (w : World) (hT : TabsBelow w.heap.size w) (hP : PowBelow w.heap.size w) : Calls Tryd.prog 40 #[] w fun e w' => e = .returned (.bool true) ∧ Below w.heap.size w w' := by
  have hE : Env w.heap.size w := ⟨hT, Nat.le_refl _⟩
  obtain ⟨B, hB⟩ : ∃ B, Hid (w.heap.size = B) := ⟨_, rfl⟩
  rw [hB.out] at hE hP ⊢
  clear hT
  go_enter Tryd.func40, Tryd.ntmps40
  go_wp2_with fail
  refine (sNew B 1000 w hE (by omega) (by omega)).mono ?_
  rintro e w1 ⟨sb, rfl, h1, hb1⟩
  have hb1 := hb1.mono (Nat.le_of_eq hB.out.symm)
  generalize New w w1 = F1 at h1
  have hle1 := h1.env.le
  have hr := lit1R w1 rA
  have hb2 : Below w1.heap.size w1 ((w1.alloc (.cells #[.int .i64 3, .int .i64 0, .string ⟨#[97]⟩, .string ⟨#[]⟩, .bool false] 79)).alloc (.cells #[.int .i64 3, .int .i64 5, .int .i64 0, .int .i64 1, .slice (some ⟨w1.heap.size, 0, none⟩) 1 1, .bool false, .bool false, .bool false, .int .i64 0, .int .u32 0] 86)) := ((Below.refl _ _).alloc (Nat.le_refl _) _).alloc (by simp) _
  have h3 := h1.below hb2
  have hr3 := hr.alloc (.cells #[.int .i64 3, .int .i64 5, .int .i64 0, .int .i64 1, .slice (some ⟨w1.heap.size, 0, none⟩) 1 1, .bool false, .bool false, .bool false, .int .i64 0, .int .u32 0] 86)
  have hap : Apart (fun j => j = w1.heap.size) F1 := fun j hj hF => by have := h1.fin j hF; have : j = w1.heap.size := hj; omega
  have HPut := Lib.hid (tPut_any B sb _ 1 1 [rA] 3 1 5 _ F1 _ (max 0 1000) h3 (hP.on (hb1.trans (hb2.mono hle1))) hr3 hap (by omega) (by omega) (by omega) (by have := rA_len.1; omega))
  have hb3 := hb1.trans (hb2.mono hle1)
  have HB3 := Lib.hid (And.intro hb3 (And.intro h3 hP))
  clear h1 hr hb2 h3 hr3 hap hb3 hb1 hP
  go_wp2_with fail
  refine HPut.out.mono ?_
  rintro e w4 ⟨rfl, h4, hk4⟩
  have hb4 := HB3.out.1.trans (HB3.out.2.1.belowB hk4)
  have hP4 := HB3.out.2.2.on hb4
  have hle4 := h4.env.le
  generalize Grow F1 _ w4 = F4 at h4
  have HF := tFetch_any B sb [rA] 3 1 0 9 w4 F4 _ h4 hP4 (by simp) (by omega) (by omega) (by simp [rA_okay]) ⟨by decide, trivial⟩
  have hl := rA_len.2
  have hl2 := rA_len.1
  have hrl := from_rA
  obtain ⟨k, hk⟩ : ∃ k, Hid ((segBytes [rA]).length = k) := ⟨_, rfl⟩
  obtain ⟨cs, hcs⟩ : ∃ cs, Hid (crcSum (segBytes [rA]) = cs) := ⟨_, rfl⟩
  obtain ⟨rs, hrs⟩ : ∃ rs, Hid (recFrom [rA] 0 9 = rs) := ⟨_, rfl⟩
  rw [hk.out] at hl hl2 ⊢
  rw [hcs.out] at HF ⊢
  rw [hrs.out] at HF hrl
  have HF2 := Lib.hid HF
  have HRl := Lib.hid hrl
  have H4 := Lib.hid (And.intro h4 (And.intro hb4 hP4))
  clear HF hrl h4 hb4 hP4 hk4 HPut HB3
  go_wp2_with fail
  refine HF2.out.mono ?_
  rintro e w5 ⟨A5, c5, rfl, hr5, h5, hk5⟩
  rw [HRl.out]
  have hb5 := H4.out.2.1.trans (H4.out.1.belowB hk5)
  have H5 := Lib.hid (And.intro hb5 (H4.out.2.2.on (H4.out.1.belowB hk5)))
  have hle5 := h5.env.le
  clear hr5 h5 hk5 hb5
  go_wp2_with fail
  refine (num22_any 0 w5).mono ?_
  rintro e w6 ⟨rfl, hw⟩
  rw [hw]
  clear hw w6
  go_wp2_with fail
  refine (num22_any 0 w5).mono ?_
  rintro e w6 ⟨rfl, hw⟩
  rw [hw]
  clear hw w6
  go_wp2_with fail
  have HN := Name_any B 3 1 (by omega) (by omega) w5 H5.out.2 hle5
  rw [name31] at HN
  refine HN.mono ?_
  rintro e w6 ⟨rfl, hb6⟩
  have HB := Lib.hid (H5.out.1.trans (hb6.mono hle5))
  clear hb6 HN
  go_wp2
  go_ret
  exact ⟨rfl, HB.out⟩
end Go.Proofs.YtfjndjbpgcggkaaDoor
