/- The law DiskRoom, walked. -/
import Derived.Test.YtfjndjbpgcggkaaDoorDK10
set_option linter.unusedVariables false
set_option linter.unusedSimpArgs false
namespace Go.Proofs.YtfjndjbpgcggkaaDoor
open Go.RowKit

def nABC (j : Nat) : ByteArray := ⟨#[97 + j.toUInt8]⟩
theorem valid_abc (j : Nat) (h : j < 3) : validName (nABC j) = true := by
  rcases j with _ | _ | _ | j
  · decide +kernel
  · decide +kernel
  · decide +kernel
  · omega
theorem size_abc (j : Nat) : (nABC j).size ≤ 35184372088832 := by
  have : (nABC j).size = 1 := rfl
  omega
theorem slice_abc (j : Nat) (h : j < 3) (W : World) : (Instr.slice 9 (.string ⟨#[97, 98, 99]⟩) (some (.int .i64 j)) (some (.int .i64 ((j : Int) + 1))) none).run Tryd.prog W = .ok (.string (nABC j)) W := by
  rcases j with _ | _ | _ | j
  · kernel_rfl
  · kernel_rfl
  · kernel_rfl
  · omega
theorem szAt_valid (s : ByteArray) (c : FObjs) (h : validName s = true) : szAt flen s c = (dfound s c).1.1.length := by
  unfold dfound szAt
  rw [h]
  cases look s c with
  | none => rfl
  | some f => rfl
theorem app_fits (s : ByteArray) (b : List Int) (room : Int) (c : FObjs) (h : validName s = true) (hf : (osum flen c : Int) + b.length ≤ room) : dappE s b.length room c = 0 ∧ osum flen (dappC s b room c) = osum flen c + b.length := by
  have he : dappE s b.length room c = 0 := by unfold dappE; rw [h, if_neg (by decide), if_neg (by omega)]
  refine ⟨he, ?_⟩
  unfold dappC
  rw [if_pos he]
  have h1 := osum_put (f := flen) s ((dfound s c).1.1 ++ b, (dfound s c).1.2 + b.length) c
  have h2 := szAt_valid s c h
  have h3 : flen ((dfound s c).1.1 ++ b, (dfound s c).1.2 + b.length) = (dfound s c).1.1.length + b.length := by
    show ((dfound s c).1.1 ++ b).length = _
    rw [List.length_append]
  omega
theorem app_full (s : ByteArray) (b : List Int) (room : Int) (c : FObjs) (h : validName s = true) (hf : room < (osum flen c : Int) + b.length) : dappE s b.length room c = 7 ∧ dappC s b room c = c := by
  have he : dappE s b.length room c = 7 := by unfold dappE; rw [h, if_neg (by decide), if_pos (by omega)]
  refine ⟨he, ?_⟩
  unfold dappC
  rw [if_neg (by rw [he]; decide)]

set_option maxHeartbeats 8000000 in
set_option maxRecDepth 100000 in
theorem DRoom_law (room : Int) (A1 : Option Addr) (c1 : Nat) (l : List (List Int)) (w : World) (hr0 : -9223372036854775808 ≤ room) (hr1 : room ≤ 9223372036854775807) (hra : RS (kSlice (kInt .u8)) w (Old w) A1 l.length l) (hT : TabsBelow w.heap.size w) (hlm : l.length ≤ 1000000000000000) :
    Calls Tryd.prog 3 #[.int .i64 room, .slice A1 l.length c1] w fun e w' => e = .returned (.bool true) ∧ Below w.heap.size w w' := by
  have hE0 : Env w.heap.size w := ⟨hT, Nat.le_refl _⟩
  have HS := Lib.hid (dalive_any w hT)
  obtain ⟨B, hB⟩ : ∃ B, Hid (w.heap.size = B) := ⟨_, rfl⟩
  have hOld : ∀ k, Old w k → k < B := fun k hk => by rw [← hB.out]; exact hk
  generalize Old w = G at hra hOld
  rw [hB.out] at hE0 HS ⊢
  clear hT
  have HE0 := Lib.hid hE0
  clear hE0
  by_cases g : room < 0 ∨ room > 500 ∨ l.length > 20
  · by_cases g1 : room < 0
    · clear g
      go_enter Tryd.func3, Tryd.ntmps3
      go_wp2_with fail
      refine HS.out.mono ?_
      rintro e w1 ⟨rfl, hb1⟩
      go_wp2
      go_ret
      exact ⟨rfl, hb1⟩
    · have g1' : 0 ≤ room := by omega
      by_cases g2 : 500 < room
      · clear g g1
        go_enter Tryd.func3, Tryd.ntmps3
        go_wp2_with fail
        refine HS.out.mono ?_
        rintro e w1 ⟨rfl, hb1⟩
        go_wp2
        go_ret
        exact ⟨rfl, hb1⟩
      · have g2' : room ≤ 500 := by omega
        have g3 : 20 < l.length := by omega
        clear g g1 g2
        go_enter Tryd.func3, Tryd.ntmps3
        go_wp2_with fail
        refine HS.out.mono ?_
        rintro e w1 ⟨rfl, hb1⟩
        go_wp2
        go_ret
        exact ⟨rfl, hb1⟩
  · have g1 : 0 ≤ room := by omega
    have g2 : room ≤ 500 := by omega
    have g3 : l.length ≤ 20 := by omega
    clear g
    go_enter Tryd.func3, Tryd.ntmps3
    go_wp2_with fail
    refine HS.out.mono ?_
    rintro e w1 ⟨rfl, hb1⟩
    have hE1 := HE0.out.step hb1
    go_wp2_with fail
    refine (wNew B room w1 hE1 (by omega) (by omega)).mono ?_
    rintro e w2 ⟨sb, rfl, h2, hb2⟩
    have hb2 := hb1.trans (hb2.mono hE1.le)
    generalize New w1 w2 = F2 at h2
    rw [show max 0 room = room by omega] at h2
    clear hb1 hE1
    go_wp2
    go_loopw [4, 7, 8] (fun _ u i wr => ∃ (k z : Nat) (F : Foot) (c : FObjs), i = .int .i64 k ∧ u = .int .i64 z ∧ k ≤ l.length ∧ DW B wr F sb room c ∧ Hid (osum flen c = z) ∧ z ≤ 500 ∧ (z : Int) ≤ room ∧ Below B w wr) (fun _ _ i _ => l.length - (intOf i).toNat)
    case atStart =>
      exact ⟨0, 0, F2, [], rfl, rfl, by omega, h2, rfl, by omega, by omega, hb2⟩
    case round =>
      obtain ⟨k, z, F, c, rfl, rfl, hk, hW, hS, hz5, hzr, hB⟩ := hrel
      by_cases hlt : k < l.length
      · obtain ⟨x, hx⟩ : ∃ x, l[k]? = some x := ⟨_, List.getElem?_eq_getElem hlt⟩
        have hrar : RS (kSlice (kInt .u8)) wr G A1 l.length l := hra.keep fun k hk _ => hB.block k (hOld k hk)
        obtain ⟨ad, A5, cp5, hA0, hFa, k0, l1, l2, r1⟩ := at_slice hrar hx
        subst hA0
        obtain ⟨n, hn⟩ : ∃ n, Hid (x.length = n) := ⟨_, rfl⟩
        rw [hn.out] at k0 l1 r1
        clear hx hrar
        by_cases hbig : 200 < n
        · go_wp2
          go_ret
          exact ⟨rfl, hB⟩
        · obtain ⟨j, hj⟩ : ∃ j : Nat, (k : Int).tmod 3 = (j : Int) := ⟨((k : Int).tmod 3).toNat, by rw [Int.tmod_eq_emod_of_nonneg (by omega)]; omega⟩
          have hj3 : j < 3 := by rw [Int.tmod_eq_emod_of_nonneg (by omega)] at hj; omega
          have hsl := slice_abc j hj3
          have hap : Apart G F := fun k hk hF => by have := hOld k hk; have := hW.fb k hF; omega
          have HA := Lib.hid (wApp B sb (nABC j) A5 n cp5 x wr F G room c hW (size_abc j) r1 ⟨l1, l2⟩ hap (by rw [hS.out]; omega))
          by_cases hfit : (z : Int) + n ≤ room
          · obtain ⟨e0, o0⟩ := app_fits (nABC j) x room c (valid_abc j hj3) (by rw [hS.out, hn.out]; exact hfit)
            rw [hn.out] at e0 o0
            rw [hS.out] at o0
            rw [e0] at HA
            have O := Lib.hid o0
            clear e0 o0
            go_wp2_with fail
            refine HA.out.mono ?_
            rintro e w3 ⟨rfl, h3, hk3⟩
            have hb3 := hB.trans (hW.belowB hk3)
            have k3 : w3.cell? (ad.add k) = some (.slice A5 n cp5) := ((hW.belowB hk3).cell (p := ad.add k) (by rw [block_add]; exact hOld _ hFa)).trans k0
            generalize Grow F wr w3 = F3 at h3
            have HW := Lib.hid h3
            clear hk3 h3
            go_wp2_with fail
            refine (num_any 0 w3).mono ?_
            rintro e w9 ⟨rfl, rfl⟩
            go_wp2_with fail
            refine (num_any 0 w3).mono ?_
            rintro e w9 ⟨rfl, rfl⟩
            go_wp2_with fail
            refine (dUsed_any sb w3 F3 room _ HW.out.at_).mono ?_
            rintro e w9 ⟨rfl, rfl⟩
            rw [O.out]
            go_wp2
            go_roundw
            case rel => exact ⟨k + 1, z + n, F3, _, by go_num, by go_num, by omega, HW.out, O, by omega, by omega, hb3⟩
            case measure => simp [intOf]; omega
          · obtain ⟨e0, o0⟩ := app_full (nABC j) x room c (valid_abc j hj3) (by rw [hS.out, hn.out]; omega)
            rw [hn.out] at e0
            rw [e0, o0] at HA
            clear e0 o0
            go_wp2_with fail
            refine HA.out.mono ?_
            rintro e w3 ⟨rfl, h3, hk3⟩
            have hb3 := hB.trans (hW.belowB hk3)
            have k3 : w3.cell? (ad.add k) = some (.slice A5 n cp5) := ((hW.belowB hk3).cell (p := ad.add k) (by rw [block_add]; exact hOld _ hFa)).trans k0
            generalize Grow F wr w3 = F3 at h3
            have HW := Lib.hid h3
            clear hk3 h3
            go_wp2_with fail
            refine (num_any 7 w3).mono ?_
            rintro e w9 ⟨rfl, rfl⟩
            go_wp2_with fail
            refine (num_any 7 w3).mono ?_
            rintro e w9 ⟨rfl, rfl⟩
            go_wp2_with fail
            refine (num_any 7 w3).mono ?_
            rintro e w9 ⟨rfl, rfl⟩
            go_wp2_with fail
            refine (dUsed_any sb w3 F3 room _ HW.out.at_).mono ?_
            rintro e w9 ⟨rfl, rfl⟩
            rw [hS.out]
            go_wp2
            go_roundw
            case rel => exact ⟨k + 1, z, F3, _, by go_num, rfl, by omega, HW.out, hS, by omega, by omega, hb3⟩
            case measure => simp [intOf]; omega
      · obtain rfl : k = l.length := by omega
        go_wp2
        go_ret
        exact ⟨rfl, hB⟩
end Go.Proofs.YtfjndjbpgcggkaaDoor
