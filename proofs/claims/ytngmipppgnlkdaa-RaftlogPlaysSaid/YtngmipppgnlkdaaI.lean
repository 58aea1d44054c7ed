/- Contracts of Big. -/
import Derived.Test.YtngmipppgnlkdaaG
import Derived.Test.YtngmipppgnlkdaaR
set_option linter.unusedVariables false
set_option linter.unusedSimpArgs false
namespace Go.Proofs.Ytngmipppgnlkdaa
open Go.RowKit

/-- A bool; where it is false, p. -/
def Bounds (p : Prop) (w : World) (e : Ending) (w' : World) : Prop := ∃ r : Bool, e = .returned (.bool r) ∧ (r = false → p) ∧ Below w.heap.size w w'
def Command.Small (c : Command) : Prop := c.Records.length ≤ 60 ∧ c.Group.size ≤ 300 ∧ ∀ x ∈ c.Records, x.Key.size ≤ 250 ∧ x.Value.size ≤ 2100

set_option maxHeartbeats 2000000 in
theorem Big10_any (a : Command) (pA3 : Option Addr) (pc3 : Nat) (F : Foot) (w : World) (hx : RS kRecord w F pA3 a.Records.length a.Records) (hn : a.Records.length ≤ 140737488355328) :
    Calls Try.prog 35 #[.agg #[.int .i64 a.Kind, .int .i64 a.Pid, .int .i64 a.Seq, .slice pA3 a.Records.length pc3, .string a.Group, .int .i64 a.Offset, .int .i64 a.Max, .int .i64 a.Now, .int .u32 a.Sum, .int .i64 a.Conf.Segment, .int .i64 a.Conf.Keep, .int .i64 a.Conf.Age, .int .i64 a.Conf.Grace]] w (Bounds a.Small w) := by
  go_enter Try.func35, Try.ntmps35
  go_wp2
  have hb1 : Below w.heap.size w (w.alloc (.cells #[.int .i64 a.Kind, .int .i64 a.Pid, .int .i64 a.Seq, .slice pA3 a.Records.length pc3, .string a.Group, .int .i64 a.Offset, .int .i64 a.Max, .int .i64 a.Now, .int .u32 a.Sum, .int .i64 a.Conf.Segment, .int .i64 a.Conf.Keep, .int .i64 a.Conf.Age, .int .i64 a.Conf.Grace] 36)) := (Below.refl _ _).alloc (Nat.le_refl _) _
  have hbx : (w.alloc (.cells #[.int .i64 a.Kind, .int .i64 a.Pid, .int .i64 a.Seq, .slice pA3 a.Records.length pc3, .string a.Group, .int .i64 a.Offset, .int .i64 a.Max, .int .i64 a.Now, .int .u32 a.Sum, .int .i64 a.Conf.Segment, .int .i64 a.Conf.Keep, .int .i64 a.Conf.Age, .int .i64 a.Conf.Grace] 36)).heap[w.heap.size]? = some (.cells #[.int .i64 a.Kind, .int .i64 a.Pid, .int .i64 a.Seq, .slice pA3 a.Records.length pc3, .string a.Group, .int .i64 a.Offset, .int .i64 a.Max, .int .i64 a.Now, .int .u32 a.Sum, .int .i64 a.Conf.Segment, .int .i64 a.Conf.Keep, .int .i64 a.Conf.Age, .int .i64 a.Conf.Grace] 36 (0, 0)) := heap_alloc_new w _
  have hs1 : w.heap.size < (w.alloc (.cells #[.int .i64 a.Kind, .int .i64 a.Pid, .int .i64 a.Seq, .slice pA3 a.Records.length pc3, .string a.Group, .int .i64 a.Offset, .int .i64 a.Max, .int .i64 a.Now, .int .u32 a.Sum, .int .i64 a.Conf.Segment, .int .i64 a.Conf.Keep, .int .i64 a.Conf.Age, .int .i64 a.Conf.Grace] 36)).heap.size := by simp
  generalize w.alloc (.cells #[.int .i64 a.Kind, .int .i64 a.Pid, .int .i64 a.Seq, .slice pA3 a.Records.length pc3, .string a.Group, .int .i64 a.Offset, .int .i64 a.Max, .int .i64 a.Now, .int .u32 a.Sum, .int .i64 a.Conf.Segment, .int .i64 a.Conf.Keep, .int .i64 a.Conf.Age, .int .i64 a.Conf.Grace] 36) = w1 at hb1 hbx hs1 ⊢
  have Hbx := Lib.hid hbx
  clear hbx
  go_loopw [3] (fun q wr => ∃ k : Nat, q = .int .i64 k ∧ k ≤ a.Records.length ∧ k ≤ 70 ∧ Hid (∀ j x, j < k → a.Records[j]? = some x → x.Key.size ≤ 250 ∧ x.Value.size ≤ 2100) ∧ Below w1.heap.size w1 wr) (fun q _ => 71 - (intOf q).toNat)
  case atStart => exact ⟨0, rfl, Nat.zero_le _, by omega, fun j x h => absurd h (by omega), Below.refl _ _⟩
  case round =>
    obtain ⟨k, rfl, hk, hk70, hE, hB⟩ := hrel
    obtain ⟨k0, k1, k2, k3, k4, _⟩ := box_Command ((hB.block _ hs1).trans Hbx.out)
    by_cases hlt : k < a.Records.length
    · by_cases h70 : k < 70
      · obtain ⟨x, hxk⟩ : ∃ x, a.Records[k]? = some x := ⟨_, List.getElem?_eq_getElem hlt⟩
        obtain ⟨ad, hA0, hFa, l0, l1, l2, l3, l4⟩ := at_Record ((hx.below hb1).below hB) hxk
        have HA0 := Lib.hid hA0
        rw [hA0] at k3
        clear hA0
        have Hxk := Lib.hid hxk
        clear hxk
        by_cases hkey : 250 < x.Key.size
        · go_wp2
          go_ret
          exact ⟨true, rfl, by simp, hb1.trans (hB.mono hb1.size)⟩
        · by_cases hval : 2100 < x.Value.size
          · go_wp2
            go_ret
            exact ⟨true, rfl, by simp, hb1.trans (hB.mono hb1.size)⟩
          · go_wp2
            go_roundw
            case rel =>
              refine ⟨k + 1, by go_num, by omega, by omega, fun j y hj hy => ?_, hB⟩
              by_cases hjk : j = k
              · subst hjk
                rw [Hxk.out] at hy
                injection hy with hy
                subst hy
                exact ⟨by omega, by omega⟩
              · exact hE.out j y (by omega) hy
            case measure => simp [intOf]; omega
      · obtain rfl : k = 70 := by omega
        have hbig : 60 < a.Records.length := by omega
        go_wp2
        go_ret
        exact ⟨true, rfl, by simp, hb1.trans (hB.mono hb1.size)⟩
    · obtain rfl : k = a.Records.length := by omega
      by_cases h70 : a.Records.length < 70
      all_goals
        go_wp2
      all_goals
        go_ret
        first
          | exact ⟨true, rfl, by simp, hb1.trans (hB.mono hb1.size)⟩
          | (refine ⟨decide (60 < (a.Records.length : Int)) || decide (300 < (a.Group.size : Int)), rfl, fun h => ?_, hb1.trans (hB.mono hb1.size)⟩
             simp only [Bool.or_eq_false_iff, decide_eq_false_iff_not] at h
             refine ⟨by omega, by omega, fun x hx => ?_⟩
             obtain ⟨j, hj, rfl⟩ := List.getElem_of_mem hx
             exact hE.out j _ hj (List.getElem?_eq_getElem hj))

def LAct.Small (a : LAct) : Prop := a.E.length ≤ 12 ∧ a.N ≤ 1125899906842624 ∧ -1125899906842624 ≤ a.N ∧ ∀ x ∈ a.E, x.Cmd.Small ∧ x.Cmd.Records.length ≤ 4
def SmallActs (l : List LAct) : Prop := l.length ≤ 40 ∧ ∀ a ∈ l, a.Small

set_option maxHeartbeats 2000000 in
theorem Big17_any (A : Option Addr) (n c : Nat) (xs : List LAct) (F : Foot) (w : World) (hx : RS kLAct w F A n xs) (hn : n ≤ 140737488355328) (hr1 : ∀ a ∈ xs, ∀ x ∈ a.E, x.Cmd.Records.length ≤ 140737488355328) :
    Calls Try.prog 11 #[.slice A n c] w (Bounds (SmallActs xs) w) := by
  obtain rfl := hx.length
  go_enter Try.func11, Try.ntmps11
  go_wp2
  go_loopw [3] (fun q wr => ∃ k : Nat, q = .int .i64 k ∧ k ≤ xs.length ∧ Hid (∀ j a, j < k → xs[j]? = some a → a.Small) ∧ Below w.heap.size w wr) (fun q _ => xs.length - (intOf q).toNat)
  case atStart => exact ⟨0, rfl, Nat.zero_le _, fun j x h => absurd h (by omega), Below.refl _ _⟩
  case round =>
    obtain ⟨k, rfl, hk, hE, hB⟩ := hrel
    by_cases hlt : k < xs.length
    · obtain ⟨a, hak⟩ : ∃ a, xs[k]? = some a := ⟨_, List.getElem?_eq_getElem hlt⟩
      obtain ⟨ad, A3, c3, hA0, hFa, k0, k1, k2, k3, l3, m3, r3⟩ := at_LAct (hx.below hB) hak
      have HA0 := Lib.hid hA0
      rw [hA0]
      clear hA0
      have Hak := Lib.hid hak
      clear hak
      by_cases h12 : 12 < a.E.length
      · go_wp2
        go_ret
        exact ⟨true, rfl, by simp, hB⟩
      by_cases hN1 : 1125899906842624 < a.N
      · go_wp2
        go_ret
        exact ⟨true, rfl, by simp, hB⟩
      by_cases hN2 : a.N < -1125899906842624
      · go_wp2
        go_ret
        exact ⟨true, rfl, by simp, hB⟩
      go_wp2
      have hra := hr1 a (List.mem_of_getElem? Hak.out)
      clear k0 k1 k2 k3
      have hEl : a.E.length ≤ 12 := by omega
      go_loopw [4] (fun q wq => ∃ p : Nat, q = .int .i64 p ∧ p ≤ a.E.length ∧ Hid (∀ j x, j < p → a.E[j]? = some x → x.Cmd.Small ∧ x.Cmd.Records.length ≤ 4) ∧ Below w.heap.size w wq) (fun q _ => a.E.length - (intOf q).toNat)
      case atStart => exact ⟨0, rfl, Nat.zero_le _, fun j x h => absurd h (by omega), hB⟩
      case round =>
        obtain ⟨p, rfl, hp, hQ, hC⟩ := hrel
        obtain ⟨ad2, A3', c3', hA1, hFa', k0, k1, k2, k3, l3', m3', r3'⟩ := at_LAct (hx.below hC) Hak.out
        obtain rfl : ad = ad2 := by have := HA0.out.symm.trans hA1; injection this
        clear hA1
        by_cases hpl : p < a.E.length
        · obtain ⟨x, hxp⟩ : ∃ x, a.E[p]? = some x := ⟨_, List.getElem?_eq_getElem hpl⟩
          obtain ⟨bd, A4, c4, hB0, hFb, q0, q1, q2, q3, q4, q5, q6, q7, q8, q9, q10, q11, q12, q13, q14, q15, q16⟩ := at_Entry r3' hxp
          have HB0 := Lib.hid hB0
          rw [hB0] at k3
          clear hB0
          have hxr := hra x (List.mem_of_getElem? hxp)
          have Hxp := Lib.hid hxp
          clear hxp
          go_wp2_with fail
          refine (Big10_any x.Cmd _ _ _ _ q16 hxr).mono ?_
          rintro e w2 ⟨r, rfl, hr, hb⟩
          have hC2 : Below w.heap.size w w2 := hC.trans (hb.mono hC.size)
          have Hr := Lib.hid hr
          clear hr
          cases r
          · obtain ⟨ad3, A5, c5, hA1, _, u0, u1, u2, u3, _, _, r5⟩ := at_LAct (hx.below hC2) Hak.out
            obtain rfl : ad = ad3 := by have := HA0.out.symm.trans hA1; injection this
            clear hA1
            obtain ⟨bd2, A6, c6, hB1, _, v0, v1, v2, v3, v4, v5, v6, v7, v8, v9, v10, v11, v12, v13, _⟩ := at_Entry r5 Hxp.out
            have HB1 := Lib.hid hB1
            rw [hB1] at u3
            clear hB1
            by_cases h4 : 4 < x.Cmd.Records.length
            · go_wp2
              go_ret
              exact ⟨true, rfl, by simp, hC2⟩
            · go_wp2
              go_roundw
              case rel =>
                refine ⟨p + 1, by go_num, by omega, fun j y hj hy => ?_, hC2⟩
                by_cases hjk : j = p
                · subst hjk
                  rw [Hxp.out] at hy
                  injection hy with hy
                  subst hy
                  exact ⟨by simpa using Hr.out, by omega⟩
                · exact hQ.out j y (by omega) hy
              case measure => simp [intOf]; omega
          · go_wp2
            go_ret
            exact ⟨true, rfl, by simp, hC2⟩
        · obtain rfl : p = a.E.length := by omega
          go_wp2
          go_roundw
          case rel =>
            refine ⟨k + 1, by go_num, by omega, fun j y hj hy => ?_, hC⟩
            by_cases hjk : j = k
            · subst hjk
              rw [Hak.out] at hy
              injection hy with hy
              subst hy
              refine ⟨by omega, by omega, by omega, fun x hx => ?_⟩
              obtain ⟨j, hj, rfl⟩ := List.getElem_of_mem hx
              exact hQ.out j _ hj (List.getElem?_eq_getElem hj)
            · exact hE.out j y (by omega) hy
          case measure => simp [intOf]; omega
    · obtain rfl : k = xs.length := by omega
      go_wp2
      go_ret
      refine ⟨decide (40 < (xs.length : Int)), rfl, fun h => ?_, hB⟩
      simp only [decide_eq_false_iff_not] at h
      refine ⟨by omega, fun a ha => ?_⟩
      obtain ⟨j, hj, rfl⟩ := List.getElem_of_mem ha
      exact hE.out j _ hj (List.getElem?_eq_getElem hj)
end Go.Proofs.Ytngmipppgnlkdaa
