/- TierNames, walked. -/
import Derived.Test.YtfjndjbpgcggkaaDoorTG
set_option linter.unusedVariables false
set_option linter.unusedSimpArgs false
namespace Go.Proofs.YtfjndjbpgcggkaaDoor
open Go.RowKit

set_option maxHeartbeats 4000000 in
set_option maxRecDepth 100000 in
theorem TNames_law (a b c d : Int) (W : World) (hT : TabsBelow W.heap.size W) (hP : PowBelow W.heap.size W) (ha2 : a ≤ 9223372036854775807) (hb2 : b ≤ 9223372036854775807) (hc2 : c ≤ 9223372036854775807) (hd2 : d ≤ 9223372036854775807) :
    Calls Tryd.prog 11 #[.int .i64 a, .int .i64 b, .int .i64 c, .int .i64 d] W fun e W' => e = .returned (.bool true) ∧ Below W.heap.size W W' := by
  have HA := Lib.hid (tAlive_any W hT hP)
  by_cases hneg : a < 0 ∨ b < 0 ∨ c < 0 ∨ d < 0
  · by_cases h1 : a < 0
    · go_enter Tryd.func11, Tryd.ntmps11
      go_wp2_with fail
      refine HA.out.mono ?_
      rintro e w1 ⟨rfl, hb1⟩
      go_wp2
      go_ret
      exact ⟨rfl, hb1⟩
    by_cases h2 : b < 0
    · go_enter Tryd.func11, Tryd.ntmps11
      go_wp2_with fail
      refine HA.out.mono ?_
      rintro e w1 ⟨rfl, hb1⟩
      go_wp2
      go_ret
      exact ⟨rfl, hb1⟩
    by_cases h3 : c < 0
    · go_enter Tryd.func11, Tryd.ntmps11
      go_wp2_with fail
      refine HA.out.mono ?_
      rintro e w1 ⟨rfl, hb1⟩
      go_wp2
      go_ret
      exact ⟨rfl, hb1⟩
    have h4 : d < 0 := by omega
    go_enter Tryd.func11, Tryd.ntmps11
    go_wp2_with fail
    refine HA.out.mono ?_
    rintro e w1 ⟨rfl, hb1⟩
    go_wp2
    go_ret
    exact ⟨rfl, hb1⟩
  obtain ⟨a, rfl⟩ := Int.eq_ofNat_of_zero_le (a := a) (by omega)
  obtain ⟨b, rfl⟩ := Int.eq_ofNat_of_zero_le (a := b) (by omega)
  obtain ⟨c, rfl⟩ := Int.eq_ofNat_of_zero_le (a := c) (by omega)
  obtain ⟨d, rfl⟩ := Int.eq_ofNat_of_zero_le (a := d) (by omega)
  clear hneg hT
  have HN1 := Lib.hid (fun w1 (hb : Below W.heap.size W w1) => Name_any W.heap.size a b (by omega) (by omega) w1 (hP.on hb) hb.size)
  have HR1 := Lib.hid (fun w1 => RName_any a b (by omega) (by omega) w1)
  have HN2 := Lib.hid (fun w1 (hb : Below W.heap.size W w1) => Name_any W.heap.size c d (by omega) (by omega) w1 (hP.on hb) hb.size)
  have heq : objName a b = objName c d → a = c ∧ b = d := objName_inj
  have heq2 : a = c ∧ b = d → objName a b = objName c d := by rintro ⟨rfl, rfl⟩; rfl
  obtain ⟨x, hx⟩ : ∃ x, Hid (objName a b = x) := ⟨_, rfl⟩
  obtain ⟨y, hy⟩ : ∃ y, Hid (objName c d = y) := ⟨_, rfl⟩
  rw [hx.out] at HN1 HR1 heq heq2
  rw [hy.out] at HN2 heq heq2
  clear hP
  have key : ∀ w1 w2, Below W.heap.size W w1 → Below w1.heap.size w1 w2 → Below W.heap.size W w2 := fun w1 w2 h1 h2 => h1.trans (h2.mono h1.size)
  by_cases h1 : a = c
  · by_cases h2 : b = d
    · have hxy := heq2 ⟨h1, h2⟩
      have e1 : ((a : Int) == (c : Int)) = true := by rw [beq_iff_eq]; omega
      have e2 : ((b : Int) == (d : Int)) = true := by rw [beq_iff_eq]; omega
      rw [← hxy] at HN2
      clear heq heq2 hxy hx hy h1 h2
      go_enter Tryd.func11, Tryd.ntmps11
      go_wp2_with fail
      refine HA.out.mono ?_
      rintro e w1 ⟨rfl, hb1⟩
      have H1 := Lib.hid hb1
      clear hb1
      go_wp2_with fail
      refine (HN1.out w1 H1.out).mono ?_
      rintro e w2 ⟨rfl, hb2⟩
      have H2 := Lib.hid (key _ _ H1.out hb2)
      clear hb2
      go_wp2_with fail
      refine (HR1.out w2).mono ?_
      rintro e w3 ⟨rfl, hw⟩
      rw [hw]
      clear hw w3
      go_wp2_with fail
      refine (HN2.out w2 H2.out).mono ?_
      rintro e w3 ⟨rfl, hb3⟩
      have H3 := Lib.hid (key _ _ H2.out hb3)
      clear hb3
      go_wp2
      go_ret
      exact ⟨rfl, H3.out⟩
    · have hxy : (x.toList == y.toList) = false := by
        rw [beq_eq_false_iff_ne]
        intro h
        exact h2 (heq (Go.WideShapes.bytes_inj (by rwa [ByteArray.toList_eq, ByteArray.toList_eq] at h))).2
      have e1 : ((a : Int) == (c : Int)) = true := by rw [beq_iff_eq]; omega
      have e2 : ((b : Int) == (d : Int)) = false := by rw [beq_eq_false_iff_ne]; omega
      clear heq heq2 hx hy h1 h2
      go_enter Tryd.func11, Tryd.ntmps11
      go_wp2_with fail
      refine HA.out.mono ?_
      rintro e w1 ⟨rfl, hb1⟩
      have H1 := Lib.hid hb1
      clear hb1
      go_wp2_with fail
      refine (HN1.out w1 H1.out).mono ?_
      rintro e w2 ⟨rfl, hb2⟩
      have H2 := Lib.hid (key _ _ H1.out hb2)
      clear hb2
      go_wp2_with fail
      refine (HR1.out w2).mono ?_
      rintro e w3 ⟨rfl, hw⟩
      rw [hw]
      clear hw w3
      go_wp2_with fail
      refine (HN2.out w2 H2.out).mono ?_
      rintro e w3 ⟨rfl, hb3⟩
      have H3 := Lib.hid (key _ _ H2.out hb3)
      clear hb3
      go_wp2
      go_ret
      exact ⟨rfl, H3.out⟩
  · have hxy : (x.toList == y.toList) = false := by
      rw [beq_eq_false_iff_ne]
      intro h
      exact h1 (heq (Go.WideShapes.bytes_inj (by rwa [ByteArray.toList_eq, ByteArray.toList_eq] at h))).1
    have e1 : ((a : Int) == (c : Int)) = false := by rw [beq_eq_false_iff_ne]; omega
    clear heq heq2 hx hy h1
    go_enter Tryd.func11, Tryd.ntmps11
    go_wp2_with fail
    refine HA.out.mono ?_
    rintro e w1 ⟨rfl, hb1⟩
    have H1 := Lib.hid hb1
    clear hb1
    go_wp2_with fail
    refine (HN1.out w1 H1.out).mono ?_
    rintro e w2 ⟨rfl, hb2⟩
    have H2 := Lib.hid (key _ _ H1.out hb2)
    clear hb2
    go_wp2_with fail
    refine (HR1.out w2).mono ?_
    rintro e w3 ⟨rfl, hw⟩
    rw [hw]
    clear hw w3
    go_wp2_with fail
    refine (HN2.out w2 H2.out).mono ?_
    rintro e w3 ⟨rfl, hb3⟩
    have H3 := Lib.hid (key _ _ H2.out hb3)
    clear hb3
    go_wp2
    go_ret
    exact ⟨rfl, H3.out⟩
end Go.Proofs.YtfjndjbpgcggkaaDoor
