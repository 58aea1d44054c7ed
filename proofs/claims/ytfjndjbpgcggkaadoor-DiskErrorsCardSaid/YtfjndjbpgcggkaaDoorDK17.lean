/- The law DiskErrors: what it calls. -/
import Derived.Test.YtfjndjbpgcggkaaDoorDK16
import Derived.Test.YtfjndjbpgcggkaaDoorDR5
set_option linter.unusedVariables false
set_option linter.unusedSimpArgs false
namespace Go.Proofs.YtfjndjbpgcggkaaDoor
open Go.RowKit

set_option maxHeartbeats 2000000 in
set_option maxRecDepth 100000 in
theorem dvalid_any (s : ByteArray) (w : World) (hs : s.size ≤ 35184372088832) :
    Calls Tryd.prog 34 #[.string s] w fun e w' => e = .returned (.bool (validName s)) ∧ Below w.heap.size w w' := by
  have hE : rappE s 0 9 [] = if validName s = false then 6 else 0 := by
    unfold rappE
    split
    · rfl
    · rw [if_neg (by simp [rsum])]
  cases hv : validName s with
  | false =>
    rw [hv, if_pos rfl] at hE
    go_enter Tryd.func34, Tryd.ntmps34
    go_wp2_with fail
    refine (RNew_any 9 w).mono ?_
    rintro e w1 ⟨rb, rfl, h1, hb1⟩
    have hrb := h1.fs.1
    go_wp2_with fail
    have ha := rappend_any rb s none 0 [] w1 (New w w1) NoF (max 0 9) [] none 0 h1 (by simp) (by simp [rsum]) (by omega) hs RS.nil (by simp) (by simp)
    rw [show rappE s ([] : List Int).length (max 0 9) [] = 6 from hE] at ha
    refine ha.mono ?_
    rintro e w2 ⟨rfl, -, hk⟩
    have hb2 := hb1.trans (hk.below_of hb1.size fun k hk => by have : k = rb := hk; omega)
    clear h1 hk ha
    go_wp2
    go_ret
    exact ⟨rfl, hb2⟩
  | true =>
    rw [hv, if_neg (by decide)] at hE
    go_enter Tryd.func34, Tryd.ntmps34
    go_wp2_with fail
    refine (RNew_any 9 w).mono ?_
    rintro e w1 ⟨rb, rfl, h1, hb1⟩
    have hrb := h1.fs.1
    go_wp2_with fail
    have ha := rappend_any rb s none 0 [] w1 (New w w1) NoF (max 0 9) [] none 0 h1 (by simp) (by simp [rsum]) (by omega) hs RS.nil (by simp) (by simp)
    rw [show rappE s ([] : List Int).length (max 0 9) [] = 0 from hE] at ha
    refine ha.mono ?_
    rintro e w2 ⟨rfl, -, hk⟩
    have hb2 := hb1.trans (hk.below_of hb1.size fun k hk => by have : k = rb := hk; omega)
    clear h1 hk ha
    go_wp2
    go_ret
    exact ⟨rfl, hb2⟩
end Go.Proofs.YtfjndjbpgcggkaaDoor
