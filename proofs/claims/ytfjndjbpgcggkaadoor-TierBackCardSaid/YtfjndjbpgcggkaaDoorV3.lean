/- varint.Get, Fold, Unfold. -/
import Derived.Test.YtfjndjbpgcggkaaDoorV2
import Derived.OwnWalk
import Derived.Test.YtfjndjbpgcggkaaDoorV1
set_option linter.unusedVariables false
set_option linter.unusedSimpArgs false
namespace Go.Proofs.YtfjndjbpgcggkaaDoor
open Go.RowKit

/-- A number out of bytes: it, how many bytes, the error. -/
def vgetGo : List Int → Nat → Nat → Nat × Nat × Int
  | [], _, _ => (0, 0, 4)
  | c :: r, i, x => if i = 9 ∧ 1 < c then (0, 0, 3) else if 128 ≤ c then vgetGo r (i + 1) (x + (c - 128).toNat * 128 ^ i) else if c = 0 ∧ 0 < i then (0, 0, 2) else (x + c.toNat * 128 ^ i, i + 1, 0)
def vget (bs : List Int) : Nat × Nat × Int := vgetGo bs 0 0

theorem pow128 (i : Nat) : (128 : Nat) ^ i = 2 ^ (7 * i) := by rw [Nat.pow_mul]
theorem or_shift (x k i : Nat) (hx : x < 128 ^ i) (hi : i ≤ 9) (hk : k * 128 ^ i < 18446744073709551616) : bits .or .u64 (x : Int) (IntKind.u64.wrap ((k : Int) * 2 ^ (7 * i))) = ((x + k * 128 ^ i : Nat) : Int) := by
  have hk2 : ((k : Int) * 2 ^ (7 * i)) = ((k * 128 ^ i : Nat) : Int) := by rw [pow128]; push_cast; rfl
  have hw : ∀ z : Int, IntKind.u64.wrap z = z % 18446744073709551616 := fun z => rfl
  have hor : x ||| k * 128 ^ i = x + k * 128 ^ i := by
    rw [pow128] at hx ⊢
    have := Nat.shiftLeft_add_eq_or_of_lt hx k
    rw [Nat.shiftLeft_eq] at this
    rw [Nat.or_comm, ← this, Nat.add_comm]
  have hsum : x + k * 128 ^ i < 18446744073709551616 := by
    rw [← hor]
    have h1 : x < 2 ^ 64 := by
      have : (128 : Nat) ^ i ≤ 128 ^ 9 := Nat.pow_le_pow_right (by omega) hi
      omega
    have h2 : k * 128 ^ i < 2 ^ 64 := by omega
    exact Nat.or_lt_two_pow h1 h2
  rw [hk2, hw]
  have key : (BitVec.ofInt 64 (x : Int) ||| BitVec.ofInt 64 (((k * 128 ^ i : Nat) : Int) % 18446744073709551616)).toNat = x + k * 128 ^ i := by
    rw [BitVec.toNat_or, BitVec.toNat_ofInt, BitVec.toNat_ofInt, ← hor]
    congr 1 <;> omega
  show IntKind.u64.wrap ((BitVec.ofInt 64 (x : Int) ||| BitVec.ofInt 64 (((k * 128 ^ i : Nat) : Int) % 18446744073709551616)).toNat : Nat) = _
  rw [key, hw]
  omega

set_option maxHeartbeats 4000000 in
set_option maxRecDepth 100000 in
theorem vGet_any (A : Option Addr) (n c : Nat) (bs : List Int) (w : World) (F : Foot) (hb : RS (kInt .u8) w F A n bs) (hn : n ≤ 1000000000000) (hB : Bytes bs) :
    Calls Tryd.prog 162 #[.slice A n c] w fun e w' => e = .returned (.tuple #[.int .u64 (vget bs).1, .int .i64 (vget bs).2.1, .int .i64 (vget bs).2.2]) ∧ w' = w := by
  have Hlen := Lib.hid hb.length
  go_enter Tryd.func162, Tryd.ntmps162
  go_wp2
  go_loop [5, 10] (fun v q => ∃ (i x : Nat), q = .int .i64 i ∧ i ≤ n ∧ i ≤ 9 ∧ v = .int .u64 x ∧ x < 128 ^ i ∧ Hid (vgetGo (bs.drop i) i x = vget bs)) (fun _ q => n - (intOf q).toNat)
  case atStart => exact ⟨0, 0, rfl, Nat.zero_le _, Nat.zero_le _, rfl, by omega, rfl⟩
  case round =>
    obtain ⟨i, x, rfl, hi, hi9, rfl, hx, hG⟩ := hrel
    by_cases hlt : i < n
    · obtain ⟨z, hz⟩ : ∃ z, bs[i]? = some z := ⟨_, List.getElem?_eq_getElem (by rw [Hlen.out]; exact hlt)⟩
      obtain ⟨ad, hA0, hFa, k0⟩ := at_int hb hz
      obtain ⟨hz1, hz2⟩ := hB z (List.mem_of_getElem? hz)
      subst hA0
      have hG2 : Hid (vgetGo (z :: bs.drop (i + 1)) i x = vget bs) := by
        obtain ⟨h1, h2⟩ := List.getElem?_eq_some_iff.1 hz
        have := hG.out
        rw [List.drop_eq_getElem_cons h1, h2] at this
        exact this
      obtain ⟨zn, rfl⟩ := Int.eq_ofNat_of_zero_le hz1
      have hp9 : Hid ((128 : Nat) ^ i ≤ 128 ^ 9) := Nat.pow_le_pow_right (by omega) hi9
      clear hz hb hG
      by_cases h9' : i = 9
      · have h9 := Lib.hid h9'
        have e9 : ((i : Int) == 9) = true := by rw [beq_iff_eq]; omega
        have hi0 : 0 < i := by omega
        clear h9'
        by_cases hz1' : 1 < zn
        · have hR : Hid (vget bs = (0, 0, 3)) := by
            show vget bs = _
            rw [← hG2.out]
            show (if i = 9 ∧ 1 < ((zn : Nat) : Int) then _ else _) = _
            rw [if_pos ⟨h9.out, by omega⟩]
          go_wp2
          rw [hR.out]
          go_ret3
          exact ⟨rfl, rfl⟩
        · have hx9 := Lib.hid hx
          by_cases hz0 : zn = 0
          · have hR : Hid (vget bs = (0, 0, 2)) := by
              show vget bs = _
              rw [← hG2.out]
              show (if i = 9 ∧ 1 < ((zn : Nat) : Int) then _ else if 128 ≤ ((zn : Nat) : Int) then _ else if ((zn : Nat) : Int) = 0 ∧ 0 < i then _ else _) = _
              rw [if_neg (by omega), if_neg (by omega), if_pos (by omega)]
            have ez : ((zn : Int) == 0) = true := by rw [beq_iff_eq]; omega
            clear hz0
            go_wp2
            rw [hR.out]
            go_ret3
            exact ⟨rfl, rfl⟩
          · have hor := or_shift x zn i hx hi9 (by
              have h1 : zn = 1 := by omega
              rw [h9.out, h1]
              decide)
            have hR : Hid (vget bs = (x + zn * 128 ^ i, i + 1, 0)) := by
              show vget bs = _
              rw [← hG2.out]
              show (if i = 9 ∧ 1 < ((zn : Nat) : Int) then _ else if 128 ≤ ((zn : Nat) : Int) then _ else if ((zn : Nat) : Int) = 0 ∧ 0 < i then _ else _) = _
              rw [if_neg (by omega), if_neg (by omega), if_neg (by omega)]
              rfl
            have Hor := Lib.hid hor
            clear hor hx
            go_wp2
            rw [hR.out]
            go_ret3
            exact ⟨by rw [← Hor.out]; rfl, rfl⟩
      · have h9 : ¬ i = 9 := h9'
        by_cases hbig : 128 ≤ zn
        · have hor := or_shift x (zn - 128) i hx hi9 (by
            have h8 : (128 : Nat) ^ i ≤ 128 ^ 8 := Nat.pow_le_pow_right (by omega) (by omega)
            have : (zn - 128) * 128 ^ i ≤ 127 * 128 ^ 8 := Nat.mul_le_mul (by omega) h8
            omega)
          have hR : Hid (vgetGo (bs.drop (i + 1)) (i + 1) (x + (zn - 128) * 128 ^ i) = vget bs) := by
            show _ = vget bs
            rw [← hG2.out]
            show _ = (if i = 9 ∧ 1 < ((zn : Nat) : Int) then _ else if 128 ≤ ((zn : Nat) : Int) then vgetGo (bs.drop (i + 1)) (i + 1) (x + (((zn : Nat) : Int) - 128).toNat * 128 ^ i) else _)
            rw [if_neg (by omega), if_pos (by omega), show (((zn : Nat) : Int) - 128).toNat = zn - 128 by omega]
          have hlt2 : Hid (x + (zn - 128) * 128 ^ i < 128 ^ (i + 1)) := by
            show _ < _
            rw [Nat.pow_succ]
            have : (zn - 128) * 128 ^ i ≤ 127 * 128 ^ i := Nat.mul_le_mul (by omega) (Nat.le_refl _)
            omega
          have Hor := Lib.hid hor
          clear hor
          go_wp2
          go_round
          case rel =>
            have h1 := Hor.out
            rw [show (((zn - 128 : Nat) : Int)) = (zn : Int) - 128 by omega] at h1
            exact ⟨i + 1, x + (zn - 128) * 128 ^ i, by go_num, by omega, by omega, by rw [h1], hlt2.out, hR⟩
          case measure => simp [intOf]; omega
        · by_cases hz0 : zn = 0 ∧ 0 < i
          · have hR : Hid (vget bs = (0, 0, 2)) := by
              show vget bs = _
              rw [← hG2.out]
              show (if i = 9 ∧ 1 < ((zn : Nat) : Int) then _ else if 128 ≤ ((zn : Nat) : Int) then _ else if ((zn : Nat) : Int) = 0 ∧ 0 < i then _ else _) = _
              rw [if_neg (by omega), if_neg (by omega), if_pos (by omega)]
            obtain ⟨hz00, hi0⟩ := hz0
            have ez : ((zn : Int) == 0) = true := by rw [beq_iff_eq]; omega
            clear hz00
            go_wp2
            rw [hR.out]
            go_ret3
            exact ⟨rfl, rfl⟩
          · have hor := or_shift x zn i hx hi9 (by
              have h8 : (128 : Nat) ^ i ≤ 128 ^ 8 := Nat.pow_le_pow_right (by omega) (by omega)
              have : zn * 128 ^ i ≤ 127 * 128 ^ 8 := Nat.mul_le_mul (by omega) h8
              omega)
            have hR : Hid (vget bs = (x + zn * 128 ^ i, i + 1, 0)) := by
              show vget bs = _
              rw [← hG2.out]
              show (if i = 9 ∧ 1 < ((zn : Nat) : Int) then _ else if 128 ≤ ((zn : Nat) : Int) then _ else if ((zn : Nat) : Int) = 0 ∧ 0 < i then _ else _) = _
              rw [if_neg (by omega), if_neg (by omega), if_neg (by omega)]
              rfl
            have Hor := Lib.hid hor
            clear hor
            by_cases hz00 : zn = 0
            · have hi0 : ¬ 0 < i := by omega
              have ez : ((zn : Int) == 0) = true := by rw [beq_iff_eq]; omega
              have Hz00 := Lib.hid hz00
              clear hz0 hz00
              go_wp2
              rw [hR.out]
              go_ret3
              exact ⟨by rw [← Hor.out]; rfl, rfl⟩
            · clear hz0
              go_wp2
              rw [hR.out]
              go_ret3
              exact ⟨by rw [← Hor.out]; rfl, rfl⟩
    · have hR : Hid (vget bs = (0, 0, 4)) := by
        show vget bs = _
        rw [← hG.out, List.drop_of_length_le (by rw [Hlen.out]; omega)]
        rfl
      go_wp2
      rw [hR.out]
      go_ret3
      exact ⟨rfl, rfl⟩
end Go.Proofs.YtfjndjbpgcggkaaDoor
