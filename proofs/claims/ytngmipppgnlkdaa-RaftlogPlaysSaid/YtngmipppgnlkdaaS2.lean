/- Contract of the document's Log: From. -/
import Derived.Test.YtngmipppgnlkdaaS1
set_option linter.unusedVariables false
set_option linter.unusedSimpArgs false
namespace Go.Proofs.Ytngmipppgnlkdaa
open Go.RowKit
attribute [local go_sem] Same.cell

theorem cut_lh {P : Program} {t e size bytes : Nat} (E : ElemT P t e size bytes) (kl kh : IntKind) (A : Option Addr) (n c m h : Nat) (hm : m ≤ n) (hmh : m ≤ h) (hh : h ≤ n) (hc : n ≤ c) :
    ∃ A', (∀ W : World, (Instr.slice t (.slice A n c) (some (.int kl (m : Int))) (some (.int kh (h : Int))) none).run P W = .ok (.slice A' (h - m) (c - m)) W) ∧
      ∀ {α : Type} (K : Kind α) (W : World) (F : Foot) (xs : List α), K.size = size → RS K W F A n xs → RS K W F A' (h - m) ((xs.drop m).take (h - m)) := by
  obtain ⟨i, z, hi, hz, hs, hb, hzs⟩ := E.info
  refine ⟨if c = m then A else A.map (·.add (m * size)), fun W => ?_, fun K W F xs hK hr => by have := (hr.drop_ m hm c hc).take_ (h - m) (by omega); rwa [hK] at this⟩
  have hel : P.elem t = e := by simp [Program.elem, E.ht]
  have hu : P.underlying t = some (.slice (P.elem t)) := by rw [hel]; exact E.ht
  rw [run_slice_lh W t A n c hu kl kh (m : Int) (h : Int) (Int.natCast_nonneg _) (by omega) (by omega), hel]
  have e1 : ((h : Int) - (m : Int)).toNat = h - m := by omega
  simp [sizeOf, typeInfo, hi, hs, sliced, Result.andThen]

set_option maxHeartbeats 1000000 in
theorem RFrom_any (g : Nat) (F : Foot) (s : LogS) (w : World) (i most : Int) (h : RLogAt w g F s) (ok : s.Ok) (hm : most ≤ 9223372036854775807) :
    Calls Try.prog 55 #[.pointer (some ⟨g, 0, none⟩), .int .i64 i, .int .i64 most] w fun e w' => ∃ v, e = .returned v ∧ Made kEntry 38 w w' (New w w') v (s.From i most) := by
  obtain ⟨A, c, h0, h1, h2, hfz, hF, hlt, ho, hc1, hc2, hr, _⟩ := h.cells
  have b0 := ok.b0
  have b1 := ok.b1
  have l1 := ok.l1
  by_cases c1 : i ≤ s.base
  · have hT : s.From i most = [] := by unfold LogS.From; rw [if_pos (.inl c1)]
    rw [hT]
    go_enter Try.func55, Try.ntmps55
    go_wp2
    go_quiet (fail)
    go_wp2
    go_ret
    exact ⟨_, rfl, Made.nil (drawn_below _ _)⟩
  have d1 : decide (i ≤ s.base) = false := by simpa using c1
  by_cases c3 : most ≤ 0
  · have hT : s.From i most = [] := by unfold LogS.From; rw [if_pos (.inr (.inr c3))]
    rw [hT]
    have d3 : decide (most < 1) = true := by rw [decide_eq_true_iff]; omega
    go_enter Try.func55, Try.ntmps55
    go_wp2
    go_quiet (fail)
    go_wp2
    go_ret
    exact ⟨_, rfl, Made.nil (drawn_below _ _)⟩
  have d3 : decide (most < 1) = false := by rw [decide_eq_false_iff_not]; omega
  by_cases c2 : s.last < i
  · have hT : s.From i most = [] := by unfold LogS.From; rw [if_pos (.inr (.inl c2))]
    rw [hT]
    have c2' : s.base + (s.l.length : Int) < i := c2
    clear c2
    go_enter Try.func55, Try.ntmps55
    go_wp2
    go_quiet (fail)
    go_wp2
    go_ret
    exact ⟨_, rfl, Made.nil (drawn_below _ _)⟩
  have hL : s.last = s.base + s.l.length := rfl
  obtain ⟨j, hj⟩ : ∃ j : Nat, i = s.base + 1 + j := ⟨(i - s.base - 1).toNat, by omega⟩
  obtain ⟨m, hmm⟩ : ∃ m : Nat, most = m := ⟨most.toNat, by omega⟩
  obtain ⟨q, hq⟩ : ∃ q, q = min m (s.l.length - j) := ⟨_, rfl⟩
  have hT : s.From i most = (s.l.drop j).take q := by
    unfold LogS.From
    rw [if_neg (by omega), show (i - s.base - 1).toNat = j by omega, show most.toNat = m by omega, hq]
    apply List.ext_getElem?
    intro p
    rw [List.getElem?_take, List.getElem?_take, List.getElem?_drop]
    by_cases hp : s.l.length ≤ j + p
    · rw [List.getElem?_eq_none hp]; simp
    · have : (p < m) = (p < min m (s.l.length - j)) := by rw [eq_iff_iff]; omega
      simp [this]
  rw [hT]
  clear hT
  have hjl : j < s.l.length := by omega
  have c2' : ¬ s.base + (s.l.length : Int) < s.base + 1 + j := by omega
  have hq1 : q ≤ s.l.length - j := by omega
  subst hj
  subst hmm
  obtain ⟨A', hcut, hrs⟩ := cut_lh tEntry .i64 .i64 A s.l.length c j (j + q) (by omega) (by omega) (by omega) hc1
  have hr2 := hrs kEntry _ _ _ rfl hr
  rw [Nat.add_sub_cancel_left] at hcut hr2
  have hcut' : ∀ W : World, (Instr.slice 22 (.slice A s.l.length c) (some (.int .i64 (j : Int))) (some (.int .i64 ((j : Int) + (q : Int)))) none).run Try.prog W = .ok (.slice A' q (c - j)) W := fun W => hcut W
  have Hrr := Lib.hid (show ∀ x ∈ (s.l.drop j).take q, x.Cmd.Records.length ≤ 1000000000 from fun x hx => ok.r1 x (List.mem_of_mem_drop (List.mem_of_mem_take hx)))
  have Hr2 := Lib.hid hr2
  have e1 : s.base + 1 + (j : Int) - s.base - 1 = (j : Int) := by omega
  have e2 : (0 : Int) ≤ (j : Int) := by omega
  have e3 : (j : Int) ≤ (s.l.length : Int) := by omega
  by_cases hmn : s.l.length - j ≤ m
  · have hqe : (s.l.length : Int) - (j : Int) = (q : Int) := by omega
    have d4 : decide (m < q) = false := by rw [decide_eq_false_iff_not]; omega
    clear hcut hrs hr2 hL c2 c1 c3 hq hmn
    go_enter Try.func55, Try.ntmps55
    go_wp2
    go_quiet (fail)
    go_wp2_with fail
    refine (CopyEntries_any _ _ _ _ _ _ (Hr2.out.drewN _) (by omega) Hrr.out).mono ?_
    rintro e w3 ⟨v3, rfl, hM⟩
    go_wp2
    go_ret
    exact ⟨_, rfl, hM.of_drewN⟩
  · have hqe : m = q := by omega
    have d4 : decide ((m : Int) < (s.l.length : Int) - (j : Int)) = true := by rw [decide_eq_true_iff]; omega
    clear hcut hrs hr2 hL c2 c1 c3 hq hmn
    subst hqe
    go_enter Try.func55, Try.ntmps55
    go_wp2
    go_quiet (fail)
    go_wp2_with fail
    refine (CopyEntries_any _ _ _ _ _ _ (Hr2.out.drewN _) (by omega) Hrr.out).mono ?_
    rintro e w3 ⟨v3, rfl, hM⟩
    go_wp2
    go_ret
    exact ⟨_, rfl, hM.of_drewN⟩
end Go.Proofs.Ytngmipppgnlkdaa
