/- Law 18's example: alive. -/
import Derived.Test.YtikpbhhnllchmaaRF9
set_option linter.unusedVariables false
set_option linter.unusedSimpArgs false
namespace Go.Proofs.Ytikpbhhnllchmaa
open Go.RowKit
attribute [local go_sem] Same.cell Same.frozen

/-- A law's node: all it leads to is new since w. -/
def Live (w w' : World) (rb : Nat) (s : RaftS) : Prop := RaftAt w' rb (New w w') s ∧ Below w.heap.size w w'
theorem Live.step {w w1 w2 : World} {rb : Nat} {s s2 : RaftS} (h : Live w w1 rb s) (h2 : RStep w1 rb (New w w1) s2 w2) : Live w w2 rb s2 := by
  have hs := h2.size
  have hs0 := h.2.size
  exact ⟨h2.at_.mono fun k hk => by
    rcases hk with hk | hk
    · exact ⟨hk.1, by have := hk.2; omega⟩
    · exact ⟨by have := hk.1; omega, hk.2⟩, h.2.trans (h2.keeps.below_of hs0 fun k hk => hk.1)⟩
theorem Live.below {w w1 w2 : World} {rb : Nat} {s : RaftS} (h : Live w w1 rb s) (h2 : Below w1.heap.size w1 w2) : Live w w2 rb s := by
  have hs := h2.size
  exact ⟨(h.1.below h2).mono fun k hk => ⟨hk.1, by have := hk.2; omega⟩, h.2.trans (h2.mono h.2.size)⟩
def alive0 (i : Nat) : RaftS := { newS 1 1 ⟨0, 0, []⟩ with clock := i }
def aliveS (i : Nat) : RaftS := if i < 10 then alive0 i else (alive0 9).tickS
theorem aliveS_ok (i : Nat) (hi : i < 10) : (alive0 i).Ok := ⟨by show (1 : Int) ≤ 1; omega, by show (1 : Int) ≤ 1; omega, by show (1 : Int) ≤ 7; omega, by show (0 : Int) ≤ 0; omega, by show (0 : Int) ≤ _; omega, by show (0 : Int) ≤ (i : Int); omega, by show (i : Int) ≤ _; omega, ⟨by show (0 : Int) ≤ 0; omega, by show (0 : Int) ≤ _; omega, by show (0 : Nat) ≤ _; omega, fun x hx => by cases hx⟩⟩
theorem aliveS_step (i : Nat) (hi : i < 10) : (aliveS i).tickS = aliveS (i + 1) := by
  unfold aliveS
  rw [if_pos hi]
  by_cases h9 : i + 1 < 10
  · rw [if_pos h9]
    have h1 : (alive0 i).patience = 10 := by show 10 + 3 * ((1 + (0 : Int) % 1) % 1) = 10; decide
    unfold RaftS.tickS
    rw [if_neg (by show ¬ (0 : Int) = 3; omega), h1, if_neg (by show ¬ (10 : Int) ≤ (i : Int) + 1; omega)]
    rfl
  · obtain rfl : i = 9 := by omega
    rw [if_neg h9]
theorem aliveS_end : (aliveS 10).role = 3 ∧ (aliveS 10).log.last = 1 ∧ (aliveS 10).commit = 1 := by decide +kernel
theorem aliveS_log : (aliveS 10).log.Ok := by
  have h1 : (aliveS 10).log.base = 0 := by decide +kernel
  have h2 : (aliveS 10).log.l.length = 1 := by decide +kernel
  have h3 : ((aliveS 10).log.l.all fun x => decide (x.Cmd.Records.length ≤ 0)) = true := by decide +kernel
  refine ⟨by omega, by omega, by omega, fun x hx => ?_⟩
  have h4 := List.all_eq_true.1 h3 x hx
  simp only [decide_eq_true_eq] at h4
  omega

set_option maxHeartbeats 4000000 in
set_option maxRecDepth 100000 in
theorem alive_any (w : World) : Calls Try.prog 10 #[] w fun e w' => e = .returned (.bool true) ∧ Below w.heap.size w w' := by
  go_enter Try.func10, Try.ntmps10
  go_wp2_with fail
  refine (New_any 1 1 w (by decide) (by decide) (by decide)).mono ?_
  rintro e w1 ⟨rb, rfl, hA, hb⟩
  have HL := Lib.hid (show Live w w1 rb (aliveS 0) from ⟨hA, hb⟩)
  clear hA hb
  go_wp2_with fail
  go_loopw [2] (fun q wr => ∃ i : Nat, q = .int .i64 i ∧ i ≤ 10 ∧ Hid (Live w wr rb (aliveS i))) (fun q _ => 20 - (intOf q).toNat)
  case atStart => exact ⟨0, rfl, by omega, HL.out⟩
  case round =>
    obtain ⟨i, rfl, hi, hO⟩ := hrel
    by_cases hin : i < 10
    · have HT := Lib.hid (show Calls Try.prog 13 #[.pointer (some ⟨rb, 0, none⟩)] wr (MsgsStep wr rb (New w wr) (aliveS i).tickS) from by
        have he : aliveS i = alive0 i := if_pos hin
        have hO' := hO.out
        rw [he] at hO' ⊢
        exact Tick_any wr rb _ _ hO'.1 (aliveS_ok i hin) (fun h => by cases h) (by show (0 : Nat) ≤ _; omega) (by show (0 : Nat) < _; omega) (by show (0 : Int) + 1 ≤ _; omega) (by show (i : Int) < _; omega))
      go_wp2_with fail
      refine HT.out.mono ?_
      rintro e w2 ⟨v, ms, rfl, -, hst⟩
      rw [aliveS_step i hin] at hst
      have hO2 := Lib.hid (hO.out.step hst)
      clear hst HT
      go_wp2
      go_roundw
      case rel => exact ⟨i + 1, by go_num, by omega, hO2.out⟩
      case measure => simp [intOf]; omega
    · obtain rfl : i = 10 := by omega
      have HS := Lib.hid (Status_any wr rb _ _ hO.out.1 aliveS_log)
      unfold statV at HS
      rw [aliveS_end.1, aliveS_end.2.1, aliveS_end.2.2] at HS
      go_wp2_with fail
      refine HS.out.mono ?_
      rintro e w2 ⟨rfl, hb2⟩
      have hO2 := Lib.hid (hO.out.2.trans (hb2.mono hO.out.2.size))
      clear HS hb2
      go_wp2_with fail
      go_ret
      exact ⟨rfl, hO2.out.alloc hO2.out.size _⟩
end Go.Proofs.Ytikpbhhnllchmaa
