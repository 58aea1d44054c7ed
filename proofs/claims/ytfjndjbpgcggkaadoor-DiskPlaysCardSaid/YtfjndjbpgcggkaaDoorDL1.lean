/- The law DiskPlays: SameStrings, big. -/
import Derived.Test.YtfjndjbpgcggkaaDoorT
import Derived.Test.YtfjndjbpgcggkaaDoorR
import Derived.Lib.Hide
import Derived.Test.YtfjndjbpgcggkaaDoorProg
set_option linter.unusedVariables false
set_option linter.unusedSimpArgs false
namespace Go.Proofs.YtfjndjbpgcggkaaDoor
open Go.RowKit

set_option maxHeartbeats 2000000 in
set_option maxRecDepth 100000 in
theorem sameStr_any (A B : Option Addr) (n c d : Nat) (xs : List ByteArray) (F G : Foot) (w : World) (hx : RS kString w F A n xs) (hy : RS kString w G B n xs) (hn : n ≤ 140737488355328) :
    Calls Tryd.prog 94 #[.slice A n c, .slice B n d] w fun e w' => e = .returned (.bool true) ∧ ∃ m, w' = w.drewN m := by
  obtain rfl := hx.length
  go_enter Tryd.func94, Tryd.ntmps94
  go_wp2
  go_loopw [5] (fun q wr => ∃ k m : Nat, q = .int .i64 k ∧ k ≤ xs.length ∧ wr = w.drewN m) (fun q _ => xs.length - (intOf q).toNat)
  case atStart => exact ⟨0, 0, rfl, Nat.zero_le _, rfl⟩
  case round =>
    obtain ⟨k, m, rfl, hk, rfl⟩ := hrel
    by_cases hlt : k < xs.length
    · obtain ⟨x, hxk⟩ : ∃ x, xs[k]? = some x := ⟨_, List.getElem?_eq_getElem hlt⟩
      obtain ⟨ad, hA0, hFa, k0⟩ := at_string hx hxk
      obtain ⟨bd, hB0, hFb, k1⟩ := at_string hy hxk
      subst hA0
      subst hB0
      have ex : (x.toList == x.toList) = true := by simp
      have ex2 : (x.toList != x.toList) = false := by simp
      clear hxk hx hy
      go_wp2_with fail
      go_quiet (fail)
      go_wp2
      go_roundw
      case rel => exact ⟨k + 1, m + nq, by go_num, by omega, rfl⟩
      case measure => simp [intOf]; omega
    · obtain rfl : k = xs.length := by omega
      go_wp2
      go_ret
      exact ⟨rfl, m, rfl⟩

def DAct.Small (a : DAct) : Prop := a.P.size ≤ 100 ∧ a.Q.size ≤ 100 ∧ a.B.length ≤ 500 ∧ a.Keep.length ≤ 50
def BoundsD (p : Prop) (w : World) (e : Ending) (w' : World) : Prop := ∃ r : Bool, e = .returned (.bool r) ∧ (r = false → p) ∧ w' = w

set_option maxHeartbeats 4000000 in
set_option maxRecDepth 100000 in
theorem bigD_any (A : Option Addr) (n c : Nat) (xs : List DAct) (F : Foot) (w : World) (hx : RS kDAct w F A n xs) (hn : n ≤ 140737488355328) :
    Calls Tryd.prog 36 #[.slice A n c] w (BoundsD (xs.length ≤ 60 ∧ ∀ a ∈ xs, a.Small) w) := by
  obtain rfl := hx.length
  go_enter Tryd.func36, Tryd.ntmps36
  go_wp2
  go_loop [3] (fun q => ∃ k : Nat, q = .int .i64 k ∧ k ≤ xs.length ∧ Hid (∀ j a, j < k → xs[j]? = some a → a.Small)) (fun q => xs.length - (intOf q).toNat)
  case atStart => exact ⟨0, rfl, Nat.zero_le _, fun j x h => absurd h (by omega)⟩
  case round =>
    obtain ⟨k, rfl, hk, hE⟩ := hrel
    by_cases hlt : k < xs.length
    · obtain ⟨a, hak⟩ : ∃ a, xs[k]? = some a := ⟨_, List.getElem?_eq_getElem hlt⟩
      obtain ⟨ad, A4, c4, A5, c5, hA0, hFa, k0, k1, k2, k3, k4, k5, l4, m4, r4, l5, m5, r5⟩ := at_DAct hx hak
      subst hA0
      have Hak := Lib.hid hak
      clear hak r4 r5 hx
      by_cases h1 : 100 < (a.P.size : Int)
      · go_wp2
        go_ret
        exact ⟨true, rfl, by simp, rfl⟩
      by_cases h2 : 100 < (a.Q.size : Int)
      · go_wp2
        go_ret
        exact ⟨true, rfl, by simp, rfl⟩
      by_cases h3 : 500 < (a.B.length : Int)
      · go_wp2
        go_ret
        exact ⟨true, rfl, by simp, rfl⟩
      by_cases h4 : 50 < (a.Keep.length : Int)
      · go_wp2
        go_ret
        exact ⟨true, rfl, by simp, rfl⟩
      have HS : Hid a.Small := ⟨by omega, by omega, by omega, by omega⟩
      go_wp2
      go_round
      case rel =>
        refine ⟨k + 1, by go_num, by omega, fun j b hj hb => ?_⟩
        rcases Nat.lt_or_ge j k with hjk | hjk
        · exact hE.out j b hjk hb
        · obtain rfl : j = k := by omega
          rw [Hak.out] at hb
          injection hb with hb
          subst hb
          exact HS.out
      case measure => simp [intOf]; omega
    · obtain rfl : k = xs.length := by omega
      go_wp2
      go_ret
      refine ⟨_, rfl, fun h => ⟨?_, fun a ha => ?_⟩, rfl⟩
      · have := of_decide_eq_false h; omega
      · obtain ⟨j, hj, rfl⟩ := List.getElem_of_mem ha
        exact hE.out j _ hj (List.getElem?_eq_getElem hj)
end Go.Proofs.YtfjndjbpgcggkaaDoor
