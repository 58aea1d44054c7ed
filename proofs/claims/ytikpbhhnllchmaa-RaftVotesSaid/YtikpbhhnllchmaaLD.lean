/- Log.From. -/
import Derived.Test.YtikpbhhnllchmaaLB
import Derived.Test.YtikpbhhnllchmaaR
set_option linter.unusedVariables false
set_option linter.unusedSimpArgs false
namespace Go.Proofs.Ytikpbhhnllchmaa
open Go.RowKit

def LogS.From (s : LogS) (i most : Int) : List Entry :=
  if i ≤ s.base ∨ s.last < i ∨ most ≤ 0 then [] else (s.l.drop (i - s.base - 1).toNat).take most.toNat

set_option maxHeartbeats 1000000 in
theorem From_any (g : Nat) (F : Foot) (s : LogS) (w : World) (i most : Int) (h : LogAt w g F s) (ok : s.Ok) (hm : most ≤ 9223372036854775807) :
    Calls Try.prog 17 #[.pointer (some ⟨g, 0, none⟩), .int .i64 i, .int .i64 most] w fun e w' => ∃ v, e = .returned v ∧ Made kEntry 43 w w' (New w w') v (s.From i most) := by
  obtain ⟨A, c, h0, h1, h2, hfz, hF, hlt, ho, hc1, hc2, hr, _⟩ := h.cells
  have b0 := ok.b0
  have b1 := ok.b1
  have l1 := ok.l1
  by_cases c1 : i ≤ s.base
  · have hT : s.From i most = [] := by unfold LogS.From; rw [if_pos (.inl c1)]
    rw [hT]
    go_enter Try.func17, Try.ntmps17
    go_wp2
    go_ret
    exact ⟨_, rfl, Made.nil (Below.refl _ _)⟩
  by_cases c2 : s.last < i
  · have hT : s.From i most = [] := by unfold LogS.From; rw [if_pos (.inr (.inl c2))]
    rw [hT]
    go_enter Try.func17, Try.ntmps17
    go_wp2_with (go_at_call 40; refine (last_any _ _ _ _ h ok).mono ?_; rintro e w' ⟨rfl, k, rfl⟩)
    go_ret
    exact ⟨_, rfl, Made.nil (drawn_below _ _)⟩
  by_cases c3 : most ≤ 0
  · have hT : s.From i most = [] := by unfold LogS.From; rw [if_pos (.inr (.inr c3))]
    rw [hT]
    go_enter Try.func17, Try.ntmps17
    go_wp2_with (go_at_call 40; refine (last_any _ _ _ _ h ok).mono ?_; rintro e w' ⟨rfl, k, rfl⟩)
    go_ret
    exact ⟨_, rfl, Made.nil (drawn_below _ _)⟩
  have hL : s.last = s.base + s.l.length := rfl
  obtain ⟨j, hj⟩ : ∃ j : Nat, i = s.base + 1 + j := ⟨(i - s.base - 1).toNat, by omega⟩
  obtain ⟨m, hmm⟩ : ∃ m : Nat, most = m := ⟨most.toNat, by omega⟩
  have hT : s.From i most = (s.l.drop j).take (min m (s.l.length - j)) := by
    unfold LogS.From
    rw [if_neg (by omega), show (i - s.base - 1).toNat = j by omega, show most.toNat = m by omega]
    apply List.ext_getElem?
    intro q
    rw [List.getElem?_take, List.getElem?_take, List.getElem?_drop]
    by_cases hq : s.l.length ≤ j + q
    · rw [List.getElem?_eq_none hq]; simp
    · have : (q < m) = (q < min m (s.l.length - j)) := by rw [eq_iff_iff]; omega
      simp [this]
  rw [hT]
  clear hT
  have hjl : j < s.l.length := by omega
  subst hj
  subst hmm
  obtain ⟨A', hcut, hrs⟩ := cut_lo tEntry .i64 A s.l.length c j (by omega)
  have hr2 := hrs kEntry _ _ _ rfl hc1 hr
  have Hr3 := Lib.hid (hr2.take_ (min m (s.l.length - j)) (by omega))
  have Hrr := Lib.hid (show ∀ x ∈ (s.l.drop j).take (min m (s.l.length - j)), x.Cmd.Records.length ≤ 1000000000000 from fun x hx => by
    have := ok.r1 x (List.mem_of_mem_drop (List.mem_of_mem_take hx)); omega)
  clear hr2 hrs hL
  have e1 : s.base + 1 + (j : Int) - s.base - 1 = (j : Int) := by omega
  have e2 : (0 : Int) ≤ (j : Int) := by omega
  have e3 : (j : Int) ≤ (s.l.length : Int) := by omega
  by_cases hmn : m ≤ s.l.length - j
  · rw [Nat.min_eq_left hmn] at Hr3 Hrr ⊢
    have hcut2 := cut_hi tEntry .i64 A' (s.l.length - j) (c - j) m (by omega)
    go_enter Try.func17, Try.ntmps17
    go_wp2_with (go_at_call 40; refine (last_any _ _ _ _ h ok).mono ?_; rintro e w' ⟨rfl, k, rfl⟩)
    go_quiet (fail)
    go_wp2_with fail
    refine (copied_any _ _ _ _ _ _ (Hr3.out.drewN _) (by omega) Hrr.out).mono ?_
    rintro e w3 ⟨v3, rfl, hM⟩
    go_wp2
    go_ret
    exact ⟨_, rfl, hM.of_drewN⟩
  · rw [Nat.min_eq_right (by omega)] at Hr3 Hrr ⊢
    have hcut2 := cut_hi tEntry .i64 A' (s.l.length - j) (c - j) (s.l.length - j) (by omega)
    go_enter Try.func17, Try.ntmps17
    go_wp2_with (go_at_call 40; refine (last_any _ _ _ _ h ok).mono ?_; rintro e w' ⟨rfl, k, rfl⟩)
    go_quiet (fail)
    go_wp2_with fail
    refine (copied_any _ _ _ _ _ _ (Hr3.out.drewN _) (by omega) Hrr.out).mono ?_
    rintro e w3 ⟨v3, rfl, hM⟩
    go_wp2
    go_ret
    exact ⟨_, rfl, hM.of_drewN⟩
end Go.Proofs.Ytikpbhhnllchmaa
