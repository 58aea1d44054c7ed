/- slices.Concat at bytes. -/
import Derived.Test.YtfjndjbpgcggkaaDoorDK1
set_option linter.unusedVariables false
set_option linter.unusedSimpArgs false
namespace Go.Proofs.YtfjndjbpgcggkaaDoor
open Go.RowKit

theorem at_slice {α : Type} {K : Kind α} {W : World} {F : Foot} {A : Option Addr} {n : Nat} {xss : List (List α)} (h : RS (kSlice K) W F A n xss) {i : Nat} {x : List α} (hx : xss[i]? = some x) :
    ∃ (ad : Addr) (B : Option Addr) (c : Nat), A = some ad ∧ F ad.block ∧ W.cell? (ad.add i) = some (.slice B x.length c) ∧ x.length ≤ c ∧ c ≤ 9223372036854775807 ∧ RS K W F B x.length x := by
  obtain ⟨ad, c, hA, hF, ⟨B, cp, rfl, h1, h2, h3⟩, hc⟩ := h.at_ hx
  exact ⟨ad, B, cp, hA, hF, by have := hc 0 _ rfl; rwa [show i * (kSlice K).size + 0 = i from by show i * 1 + 0 = i; omega] at this, h1, h2, h3⟩

def sumL (xss : List (List Int)) : Nat := xss.flatten.length
theorem sumL_take (xss : List (List Int)) (k : Nat) (x : List Int) (h : xss[k]? = some x) : sumL (xss.take (k + 1)) = sumL (xss.take k) + x.length ∧ (xss.take (k + 1)).flatten = (xss.take k).flatten ++ x := by
  have e : xss.take (k + 1) = xss.take k ++ [x] := by rw [List.take_add_one, h]; rfl
  rw [e]
  simp [sumL]
theorem sumL_le (xss : List (List Int)) (k : Nat) : sumL (xss.take k) ≤ sumL xss := by
  have : xss.flatten = (xss.take k).flatten ++ (xss.drop k).flatten := by rw [← List.flatten_append, List.take_append_drop]
  unfold sumL
  rw [this, List.length_append]
  omega

set_option maxHeartbeats 2000000 in
set_option maxRecDepth 100000 in
theorem concat_any (A : Option Addr) (c : Nat) (w : World) (F : Foot) (xss : List (List Int)) (h : RS (kSlice (kInt .u8)) w F A xss.length xss) (hn : xss.length ≤ 1000000000) (ht : xss.flatten.length ≤ 1000000000000) :
    Calls Tryd.prog 53 #[.slice A xss.length c] w fun e w' => ∃ v, e = .returned v ∧ Made (kInt .u8) 5 w w' (New w w') v xss.flatten := by
  have hall := sumL_le xss
  have ht' : sumL xss ≤ 1000000000000 := ht
  obtain ⟨n, hnn⟩ : ∃ n, Hid (xss.length = n) := ⟨_, rfl⟩
  rw [hnn.out] at h hn ⊢
  obtain ⟨q, hq⟩ : ∃ q, Hid (xss.flatten = q) := ⟨_, rfl⟩
  rw [hq.out]
  have HA := Lib.hid hall
  clear hall ht
  go_enter Tryd.func53, Tryd.ntmps53
  go_wp2
  go_loop [3, 11] (fun z i => ∃ k : Nat, k ≤ n ∧ i = .int .i64 k ∧ z = .int .i64 (sumL (xss.take k) : Nat)) (fun _ i => n - (intOf i).toNat)
  case atStart => exact ⟨0, by omega, rfl, by simp [sumL]⟩
  case round =>
    obtain ⟨k, hk, rfl, rfl⟩ := hrel
    by_cases hlt : k < n
    · obtain ⟨x, hx⟩ : ∃ x, xss[k]? = some x := ⟨_, List.getElem?_eq_getElem (by rw [hnn.out]; exact hlt)⟩
      obtain ⟨ad, B, cp, hA0, hFa, k0, l1, l2, r1⟩ := at_slice h hx
      subst hA0
      obtain ⟨s1, -⟩ := sumL_take xss k x hx
      have s2 := HA.out (k + 1)
      rw [s1] at s2
      have S1 := Lib.hid s1
      clear s1 hx
      generalize hs0 : sumL (xss.take k) = s0 at s2 S1 ⊢
      have Hs0 := Lib.hid hs0
      clear hs0
      go_wp2
      go_round
      case rel => exact ⟨k + 1, by omega, by go_num, by rw [S1.out]; go_num⟩
      case measure => simp [intOf]; omega
    · obtain rfl : k = n := by omega
      have s2 := HA.out k
      have s3 : sumL (xss.take k) ≤ 1000000000000 := by omega
      clear hlt
      generalize hs0 : sumL (xss.take k) = s0 at s2 s3 ⊢
      have Hs0 := Lib.hid hs0
      clear hs0
      go_wp2_with fail
      refine (grow_nil s0 w s3).mono ?_
      rintro e w1 ⟨v, rfl, hM⟩
      obtain ⟨Av, cv, rfl, -, -⟩ := hM.own.slice
      go_wp2
      go_loopw [6, 27] (fun v i wr => ∃ (j : Nat) (B : Option Addr) (m cp : Nat) (xs : List Int), j ≤ k ∧ i = .int .i64 j ∧ v = .slice B m cp ∧ Hid (m = xs.length ∧ xs = (xss.take j).flatten) ∧ OwnS (kInt .u8) 5 wr (New w wr) (.slice B m cp) xs ∧ Below w.heap.size w wr) (fun _ i _ => k - (intOf i).toNat)
      case atStart =>
        exact ⟨0, Av, _, cv, [], by omega, rfl, rfl, ⟨rfl, by simp⟩, hM.own, hM.below⟩
      case round =>
        obtain ⟨j, B, m, cp, xs, hj, rfl, rfl, hmx, hO, hB⟩ := hrel
        by_cases hlt : j < k
        · obtain ⟨x, hx⟩ : ∃ x, xss[j]? = some x := ⟨_, List.getElem?_eq_getElem (by rw [hnn.out]; exact hlt)⟩
          have hw := h.bound.below hB
          obtain ⟨ad, B2, cp2, hA0, hFa, k0, l1, l2, r1⟩ := at_slice hw hx
          subst hA0
          obtain ⟨s1, s1'⟩ := sumL_take xss j x hx
          have s4 := HA.out (j + 1)
          have hxm : xs.length + x.length ≤ 1000000000000 := by
            have := hmx.out.2
            have h1 : sumL (xss.take j) = xs.length := by rw [this]; rfl
            omega
          have HS := Lib.hid s1'
          clear s1 s1' s4 hx
          have hap : ∀ q, (Value.slice B m cp).ownBlock = some q → ¬ (F q ∧ q < w.heap.size) := fun q hq hk => by
            have := (hO.lt q hq).1.1
            omega
          go_wp2_with (first
            | (at_builtin
               refine wpList_append_S rfl tBytes (.tmp 31) (.tmp 32) rfl (K := kInt .u8) rfl rfl hO r1 hap (by omega) (by omega) ?_))
          intro v' w2 hA
          have hO2 : OwnS (kInt .u8) 5 w2 (New w w2) v' (xs ++ x) := by
            refine hA.own.flat (flat_int _) fun q hq => ?_
            have h2 := hA.own.lt q hq
            rcases hA.lies q hq with h3 | h3
            · exact ⟨(hO.lt q h3).1.1, h2.2⟩
            · exact ⟨by have := hB.size; omega, h2.2⟩
          have hB2 : Below w.heap.size w w2 := hB.grown hA.grown hB.size (fun q hq => (hO.lt q hq).1.1)
          obtain ⟨B3, cp3, hv3, -, -⟩ := hO2.slice
          generalize hm3 : (xs ++ x).length = m3 at hv3
          have HM3 := Lib.hid hm3
          clear hm3
          subst hv3
          go_wp2
          go_roundw
          case rel =>
            exact ⟨j + 1, B3, m3, cp3, xs ++ x, by omega, by go_num, rfl, ⟨HM3.out.symm, by rw [HS.out, hmx.out.2]⟩, hO2, hB2⟩
          case measure => simp [intOf]; omega
        · obtain rfl : j = k := by omega
          have hxq : Hid (xs = q) := by
            show xs = q
            rw [hmx.out.2, ← hq.out, ← hnn.out, List.take_length]
          go_wp2
          go_ret
          exact ⟨_, rfl, by rw [← hxq.out]; exact hO, fun q hq => (hO.lt q hq).1.1, hB⟩
end Go.Proofs.YtfjndjbpgcggkaaDoor
