/- names.may, at every rune. -/
import Derived.Test.YtfjndjbpgcggkaaDoorDN1
set_option linter.unusedVariables false
set_option linter.unusedSimpArgs false
namespace Go.Proofs.YtfjndjbpgcggkaaDoor
open Go.RowKit

def letters : ByteArray := ⟨#[97, 98, 99, 100, 101, 102, 103, 104, 105, 106, 107, 108, 109, 110, 111, 112, 113, 114, 115, 116, 117, 118, 119, 120, 121, 122, 48, 49, 50, 51, 52, 53, 54, 55, 56, 57]⟩
def signs : ByteArray := ⟨#[45, 95, 46]⟩
def may (c : Int) : Bool := among letters c || among signs c || (decide (161 ≤ c) && decide (c ≤ 65535) && !decide (c = 173) && !decide (c = 65279))

set_option maxHeartbeats 4000000 in
set_option maxRecDepth 1000000 in
theorem may_any (c : Int) (w : World) :
    Calls Tryd.prog 108 #[.int .i32 c] w fun e w' => e = .returned (.bool (may c)) ∧ Below w.heap.size w w' := by
  obtain ⟨b1, hb1⟩ : ∃ b, Hid (among letters c = b) := ⟨_, rfl⟩
  obtain ⟨b2, hb2⟩ : ∃ b, Hid (among signs c = b) := ⟨_, rfl⟩
  have A1 : ∀ w : World, Calls Tryd.prog 109 #[.string letters, .int .i32 c] w fun e w' => e = .returned (.bool b1) ∧ Below w.heap.size w w' := fun w => by
    have := among_any letters c w (by decide)
    rwa [hb1.out] at this
  have A2 : ∀ w : World, Calls Tryd.prog 109 #[.string signs, .int .i32 c] w fun e w' => e = .returned (.bool b2) ∧ Below w.heap.size w w' := fun w => by
    have := among_any signs c w (by decide)
    rwa [hb2.out] at this
  obtain ⟨r, hr⟩ : ∃ r, Hid (may c = r) := ⟨_, rfl⟩
  have hrr : Hid (r = (b1 || b2 || (decide (161 ≤ c) && decide (c ≤ 65535) && !decide (c = 173) && !decide (c = 65279)))) := by
    show r = _
    rw [← hr.out, ← hb1.out, ← hb2.out]
    rfl
  rw [hr.out]
  have HA := Lib.hid (And.intro A1 A2)
  clear A1 A2
  cases b1
  · cases b2
    · by_cases c1 : 161 ≤ c
      · by_cases c2 : c ≤ 65535
        · by_cases c3 : c = 173
          · subst c3
            have : r = false := by rw [hrr.out]; simp
            rw [this]
            go_enter Tryd.func108, Tryd.ntmps108
            go_wp2_with fail
            refine (HA.out.1 _).mono ?_
            rintro e w1 ⟨rfl, h1⟩
            go_wp2_with fail
            refine (HA.out.2 _).mono ?_
            rintro e w2 ⟨rfl, h2⟩
            go_wp2
            go_ret
            exact ⟨rfl, h1.trans (h2.mono h1.size)⟩
          · by_cases c4 : c = 65279
            · subst c4
              have : r = false := by rw [hrr.out]; simp
              rw [this]
              go_enter Tryd.func108, Tryd.ntmps108
              go_wp2_with fail
              refine (HA.out.1 _).mono ?_
              rintro e w1 ⟨rfl, h1⟩
              go_wp2_with fail
              refine (HA.out.2 _).mono ?_
              rintro e w2 ⟨rfl, h2⟩
              go_wp2
              go_ret
              exact ⟨rfl, h1.trans (h2.mono h1.size)⟩
            · have : r = true := by rw [hrr.out]; simp [c1, c2, c3, c4]
              rw [this]
              have d3 : (c != 173) = true := by rw [bne_iff_ne]; exact c3
              have d4 : (c != 65279) = true := by rw [bne_iff_ne]; exact c4
              have H3 := Lib.hid c3
              have H4 := Lib.hid c4
              clear c3 c4
              go_enter Tryd.func108, Tryd.ntmps108
              go_wp2_with fail
              refine (HA.out.1 _).mono ?_
              rintro e w1 ⟨rfl, h1⟩
              go_wp2_with fail
              refine (HA.out.2 _).mono ?_
              rintro e w2 ⟨rfl, h2⟩
              go_wp2
              go_ret
              exact ⟨rfl, h1.trans (h2.mono h1.size)⟩
        · have : r = false := by rw [hrr.out]; simp [c2]
          rw [this]
          go_enter Tryd.func108, Tryd.ntmps108
          go_wp2_with fail
          refine (HA.out.1 _).mono ?_
          rintro e w1 ⟨rfl, h1⟩
          go_wp2_with fail
          refine (HA.out.2 _).mono ?_
          rintro e w2 ⟨rfl, h2⟩
          go_wp2
          go_ret
          exact ⟨rfl, h1.trans (h2.mono h1.size)⟩
      · have : r = false := by rw [hrr.out]; simp [c1]
        rw [this]
        go_enter Tryd.func108, Tryd.ntmps108
        go_wp2_with fail
        refine (HA.out.1 _).mono ?_
        rintro e w1 ⟨rfl, h1⟩
        go_wp2_with fail
        refine (HA.out.2 _).mono ?_
        rintro e w2 ⟨rfl, h2⟩
        go_wp2
        go_ret
        exact ⟨rfl, h1.trans (h2.mono h1.size)⟩
    · have : r = true := by rw [hrr.out]; simp
      rw [this]
      go_enter Tryd.func108, Tryd.ntmps108
      go_wp2_with fail
      refine (HA.out.1 _).mono ?_
      rintro e w1 ⟨rfl, h1⟩
      go_wp2_with fail
      refine (HA.out.2 _).mono ?_
      rintro e w2 ⟨rfl, h2⟩
      go_wp2
      go_ret
      exact ⟨rfl, h1.trans (h2.mono h1.size)⟩
  · have : r = true := by rw [hrr.out]; simp
    rw [this]
    go_enter Tryd.func108, Tryd.ntmps108
    go_wp2_with fail
    refine (HA.out.1 _).mono ?_
    rintro e w1 ⟨rfl, h1⟩
    go_wp2
    go_ret
    exact ⟨rfl, h1⟩
end Go.Proofs.YtfjndjbpgcggkaaDoor
