/- What was put is read back: numbers, frames. Plain. -/
import Derived.Test.YtfjndjbpgcggkaaDoorV9
set_option linter.unusedVariables false
set_option linter.unusedSimpArgs false
namespace Go.Proofs.YtfjndjbpgcggkaaDoor
open Go.RowKit

theorem vget_back : ∀ (f x i acc : Nat) (r : List Int), f + i = 9 → x < 128 ^ (f + 1) → x * 128 ^ i < 18446744073709551616 → (0 < i → 1 ≤ x) → vgetGo (vputF f x ++ r) i acc = (acc + x * 128 ^ i, i + (vputF f x).length, 0)
  | 0, x, i, acc, r, hi, hx, hm, h1 => by
    obtain rfl : i = 9 := by omega
    have hx1 : x ≤ 1 := by omega
    have := h1 (by omega)
    show vgetGo ((x : Int) :: r) 9 acc = _
    unfold vgetGo
    rw [if_neg (by omega), if_neg (by omega), if_neg (by omega)]
    rfl
  | f + 1, x, i, acc, r, hi, hx, hm, h1 => by
    rw [vputF]
    by_cases hs : x < 128
    · rw [if_pos hs]
      show vgetGo ((x : Int) :: r) i acc = _
      unfold vgetGo
      rw [if_neg (by omega), if_neg (by omega), if_neg (by omega)]
      rfl
    · rw [if_neg hs]
      show vgetGo (((x % 128 + 128 : Nat) : Int) :: (vputF f (x / 128) ++ r)) i acc = _
      unfold vgetGo
      rw [if_neg (by omega), if_pos (by omega), show (((x % 128 + 128 : Nat) : Int) - 128).toNat = x % 128 by omega]
      have hp : (128 : Nat) ^ (f + 1 + 1) = 128 ^ (f + 1) * 128 := Nat.pow_succ _ _
      have hp2 : (128 : Nat) ^ (i + 1) = 128 ^ i * 128 := Nat.pow_succ _ _
      have hsum : x % 128 * 128 ^ i + x / 128 * 128 ^ (i + 1) = x * 128 ^ i := by
        have e : x / 128 * 128 ^ (i + 1) = 128 * (x / 128) * 128 ^ i := by rw [hp2, Nat.mul_comm 128 (x / 128), Nat.mul_assoc, Nat.mul_comm (128 ^ i) 128]
        rw [e, ← Nat.add_mul, Nat.mod_add_div]
      rw [vget_back f (x / 128) (i + 1) _ r (by omega) (by rw [Nat.div_lt_iff_lt_mul (by omega)]; omega) (by omega) (fun _ => by omega)]
      rw [List.length_cons]
      refine Prod.ext ?_ (Prod.ext ?_ rfl)
      · show acc + x % 128 * 128 ^ i + x / 128 * 128 ^ (i + 1) = acc + x * 128 ^ i
        omega
      · show i + 1 + _ = i + (_ + 1)
        omega
theorem vget_vput (x : Nat) (r : List Int) (hx : x < 18446744073709551616) : vget (vput x ++ r) = (x, (vput x).length, 0) := by
  have := vget_back 9 x 0 0 r rfl (by omega) (by omega) (fun h => absurd h (by omega))
  unfold vget vput
  rw [this]
  simp
theorem fget_fput (p r : List Int) (hp : p.length ≤ 16777216) : fget (fput p ++ r) = (p, (fput p).length, 0) := by
  have hl : (fput p).length = (vput p.length).length + 4 + p.length := by
    unfold fput
    rw [List.length_append, List.length_append]
    rfl
  have e : fput p ++ r = vput p.length ++ (sum4 (crcSum p) ++ p ++ r) := by unfold fput; simp
  have hv := vget_vput p.length (sum4 (crcSum p) ++ p ++ r) (by omega)
  unfold fget
  rw [e, hv]
  dsimp only
  have hd : (vput p.length ++ (sum4 (crcSum p) ++ p ++ r)).drop (vput p.length).length = sum4 (crcSum p) ++ p ++ r := List.drop_left
  have hd4 : (vput p.length ++ (sum4 (crcSum p) ++ p ++ r)).drop ((vput p.length).length + 4) = p ++ r := by
    rw [← List.drop_drop, hd, List.append_assoc]
    exact List.drop_left' rfl
  rw [if_neg (by simp), if_neg (by omega), if_neg ?_, hd, hd4, List.take_left' rfl, if_pos ?_, hl]
  · rw [List.append_assoc]
    exact List.take_left' rfl
  · simp only [List.length_append]
    have : (sum4 (crcSum p)).length = 4 := rfl
    omega
end Go.Proofs.YtfjndjbpgcggkaaDoor
