/- Contracts of what only reads: SameRecords, Same, SameEntries, Big. -/
import Derived.Test.YtngmipppgnlkdaaA
import Derived.Test.YtngmipppgnlkdaaTQ
set_option linter.unusedVariables false
set_option linter.unusedSimpArgs false
namespace Go.Proofs.Ytngmipppgnlkdaa
open Go.RowKit

/-- A bool that tells whether p. -/
def Tells (p : Prop) (w : World) (e : Ending) (w' : World) : Prop := ∃ r : Bool, e = .returned (.bool r) ∧ (r = true ↔ p) ∧ Below w.heap.size w w'

set_option maxHeartbeats 1000000 in
theorem SameRecords_any (A B : Option Addr) (n m c d : Nat) (xs ys : List Record) (F G : Foot) (w : World) (hx : RS kRecord w F A n xs) (hy : RS kRecord w G B m ys) (hn : n ≤ 140737488355328) (hm : m ≤ 140737488355328) :
    Calls Try.prog 57 #[.slice A n c, .slice B m d] w (Tells (xs = ys) w) := by
  obtain rfl := hx.length
  obtain rfl := hy.length
  by_cases hl : xs.length = ys.length
  · go_enter Try.func57, Try.ntmps57
    go_wp2
    go_loopw [5] (fun q wr => ∃ k : Nat, q = .int .i64 k ∧ k ≤ xs.length ∧ Hid (xs.take k = ys.take k) ∧ Below w.heap.size w wr) (fun q _ => xs.length - (intOf q).toNat)
    case atStart => exact ⟨0, rfl, Nat.zero_le _, rfl, Below.refl _ _⟩
    case round =>
      obtain ⟨k, rfl, hk, hE, hB⟩ := hrel
      by_cases hlt : k < xs.length
      · obtain ⟨x, hxk⟩ : ∃ x, xs[k]? = some x := ⟨_, List.getElem?_eq_getElem hlt⟩
        obtain ⟨y, hyk⟩ : ∃ y, ys[k]? = some y := ⟨_, List.getElem?_eq_getElem (by omega)⟩
        obtain ⟨ad, hA0, hFa, k0, k1, k2, k3, k4⟩ := at_Record (hx.below hB) hxk
        obtain ⟨bd, hB0, hFb, l0, l1, l2, l3, l4⟩ := at_Record (hy.below hB) hyk
        have HA0 := Lib.hid hA0
        have HB0 := Lib.hid hB0
        rw [hA0, hB0]
        clear hA0 hB0
        have hlt2 : k < ys.length := by omega
        clear hl
        obtain ⟨r, hr, _, hneq⟩ := eq_Record x y
        have hgd := guard_Record
        have Hr := Lib.hid hr
        clear hr
        cases r
        · go_wp2
          go_quiet (fail)
          go_wp2
          go_ret
          refine ⟨false, rfl, ?_, hB.trans ((drawn_below wr nq).mono hB.size)⟩
          simp only [Bool.false_eq_true, false_iff]
          intro he
          have := Hr.out
          rw [he, hyk] at hxk
          injection hxk with hxk
          simp [hxk] at this
        · go_wp2
          go_quiet (fail)
          go_wp2
          go_roundw
          case rel =>
            refine ⟨k + 1, by go_num, by omega, ?_, hB.trans ((drawn_below wr nq).mono hB.size)⟩
            have he := hE.out
            show xs.take (k + 1) = ys.take (k + 1)
            rw [List.take_add_one, List.take_add_one, he, hxk, hyk, show x = y from by simpa using Hr.out]
          case measure => simp [intOf]; omega
      · obtain rfl : k = xs.length := by omega
        go_wp2
        go_ret
        refine ⟨true, rfl, ?_, hB⟩
        simp only [true_iff]
        have he := hE.out
        rw [List.take_of_length_le (Nat.le_refl _), List.take_of_length_le (by omega)] at he
        exact he
  · have hne : xs ≠ ys := fun h => hl (by rw [h])
    have hlb : ((xs.length : Int) != (ys.length : Int)) = true := by rw [bne_iff_ne]; omega
    go_enter Try.func57, Try.ntmps57
    go_wp2
    go_ret
    exact ⟨false, rfl, by simp [hne], Below.refl _ _⟩
end Go.Proofs.Ytngmipppgnlkdaa
