/- crc.Sum, the program's and the document's. -/
import Derived.Test.YtfjndjbpgcggkaaDoorKB
import Derived.Lib.Hide
set_option linter.unusedVariables false
set_option linter.unusedSimpArgs false
namespace Go.Proofs.YtfjndjbpgcggkaaDoor
open Go.RowKit

def Bytes (bs : List Int) : Prop := ∀ c ∈ bs, 0 ≤ c ∧ c ≤ 255
def crcBit (x : Int) : Int := if x % 2 = 1 then bits .xor .u32 (x / 2) 3988292384 else x / 2
def crcN : Nat → Int → Int
  | 0, x => x
  | k + 1, x => crcN k (crcBit x)
def crcGo : List Int → Int → Int
  | [], x => x
  | c :: r, x => crcGo r (crcN 8 (bits .xor .u32 x c))
def crcMore (x : Int) (bs : List Int) : Int := bits .xor .u32 IntKind.u32.max (crcGo bs (bits .xor .u32 IntKind.u32.max x))
def crcSum (bs : List Int) : Int := crcMore 0 bs

theorem bits_u32 (op : BinOp) (a b : Int) : 0 ≤ bits op .u32 a b ∧ bits op .u32 a b < 4294967296 := by
  unfold bits
  have h : ∀ z : Int, IntKind.u32.wrap z = z % 4294967296 := fun z => rfl
  rw [h]
  omega
theorem u32_and1 (n : Int) : bits .and .u32 n 1 = n % 2 := by
  have h3 : (BitVec.ofInt 32 1).toNat = 2 ^ 1 - 1 := by decide
  have key : (BitVec.ofInt 32 n &&& BitVec.ofInt 32 1).toNat = (n % ((2 ^ 32 : Nat) : Int)).toNat % 2 ^ 1 := by
    rw [BitVec.toNat_and, BitVec.toNat_ofInt, h3, Nat.and_two_pow_sub_one_eq_mod]
  show IntKind.u32.wrap ((BitVec.ofInt 32 n &&& BitVec.ofInt 32 1).toNat : Nat) = n % 2
  rw [key]
  show (((n % ((2 ^ 32 : Nat) : Int)).toNat % 2 ^ 1 : Nat) : Int) % 4294967296 = _
  omega
theorem u32_xor0 (z : Int) (h : 0 ≤ z ∧ z < 4294967296) : bits .xor .u32 z 0 = z := by
  have key : (BitVec.ofInt 32 z ^^^ BitVec.ofInt 32 0).toNat = (z % ((2 ^ 32 : Nat) : Int)).toNat := by
    rw [BitVec.toNat_xor, BitVec.toNat_ofInt]
    simp
  show IntKind.u32.wrap ((BitVec.ofInt 32 z ^^^ BitVec.ofInt 32 0).toNat : Nat) = z
  rw [key]
  show ((z % ((2 ^ 32 : Nat) : Int)).toNat : Int) % 4294967296 = _
  omega
theorem poly_and : bits .and .u32 3988292384 4294967295 = 3988292384 ∧ bits .and .u32 3988292384 0 = 0 := by decide +kernel
theorem crcBit_range (x : Int) (h : 0 ≤ x ∧ x < 4294967296) : 0 ≤ crcBit x ∧ crcBit x < 4294967296 := by
  unfold crcBit
  split
  · exact bits_u32 _ _ _
  · omega
theorem crcN_range : ∀ (k : Nat) (x : Int), 0 ≤ x ∧ x < 4294967296 → 0 ≤ crcN k x ∧ crcN k x < 4294967296
  | 0, _, h => h
  | k + 1, x, h => crcN_range k _ (crcBit_range x h)
theorem crcGo_range : ∀ (bs : List Int) (x : Int), 0 ≤ x ∧ x < 4294967296 → 0 ≤ crcGo bs x ∧ crcGo bs x < 4294967296
  | [], _, h => h
  | c :: r, x, _ => crcGo_range r _ (crcN_range 8 _ (bits_u32 _ _ _))
theorem crcMore_range (x : Int) (bs : List Int) : 0 ≤ crcMore x bs ∧ crcMore x bs < 4294967296 := bits_u32 _ _ _

set_option maxHeartbeats 4000000 in
set_option maxRecDepth 100000 in
theorem cMore_any (A : Option Addr) (n c : Nat) (bs : List Int) (x : Int) (w : World) (F : Foot) (hb : RS (kInt .u8) w F A n bs) (hn : n ≤ 1000000000000) (hB : Bytes bs) :
    Calls Tryd.prog 142 #[.int .u32 x, .slice A n c] w fun e w' => e = .returned (.int .u32 (crcMore x bs)) ∧ w' = w := by
  have hp := poly_and
  have h0 := bits_u32 .xor IntKind.u32.max x
  have Hlen := Lib.hid hb.length
  unfold crcMore
  go_enter Tryd.func142, Tryd.ntmps142
  go_wp2
  go_loop [5, 13] (fun v q => ∃ (i : Nat) (y : Int), q = .int .i64 i ∧ i ≤ n ∧ v = .int .u32 y ∧ 0 ≤ y ∧ y < 4294967296 ∧ Hid (crcGo (bs.drop i) y = crcGo bs (bits .xor .u32 IntKind.u32.max x))) (fun _ q => n - (intOf q).toNat)
  case atStart => exact ⟨0, _, rfl, Nat.zero_le _, rfl, h0.1, h0.2, rfl⟩
  case round =>
    obtain ⟨i, y, rfl, hi, rfl, hy1, hy2, hG⟩ := hrel
    by_cases hlt : i < n
    · obtain ⟨z, hz⟩ : ∃ z, bs[i]? = some z := ⟨_, List.getElem?_eq_getElem (by rw [Hlen.out]; exact hlt)⟩
      obtain ⟨ad, hA0, hFa, k0⟩ := at_int hb hz
      obtain ⟨hz1, hz2⟩ := hB z (List.mem_of_getElem? hz)
      subst hA0
      have hG2 : Hid (crcGo (bs.drop (i + 1)) (crcN 8 (bits .xor .u32 y z)) = crcGo bs (bits .xor .u32 IntKind.u32.max x)) := by
        obtain ⟨h1, h2⟩ := List.getElem?_eq_some_iff.1 hz
        have := hG.out
        rw [List.drop_eq_getElem_cons h1, h2] at this
        exact this
      have hb3 := bits_u32 .xor y z
      clear hz hb
      go_wp2
      go_loop [5, 21] (fun v q => ∃ (k : Nat) (y' : Int), q = .int .i64 k ∧ k ≤ 8 ∧ v = .int .u32 y' ∧ 0 ≤ y' ∧ y' < 4294967296 ∧ Hid (crcN (8 - k) y' = crcN 8 (bits .xor .u32 y z))) (fun _ q => 8 - (intOf q).toNat)
      case atStart => exact ⟨0, _, rfl, Nat.zero_le _, rfl, hb3.1, hb3.2, rfl⟩
      case round =>
        obtain ⟨k, y', rfl, hk, rfl, hy1', hy2', hN⟩ := hrel
        by_cases hlt : k < 8
        · obtain ⟨k', hk'⟩ : ∃ k', 8 - k = k' + 1 := ⟨7 - k, by omega⟩
          have hN2 : Hid (crcN (8 - (k + 1)) (crcBit y') = crcN 8 (bits .xor .u32 y z)) := by
            have := hN.out
            rw [hk'] at this
            rw [show 8 - (k + 1) = k' by omega]
            exact this
          clear hk'
          have hr2 := Lib.hid (crcBit_range y' ⟨hy1', hy2'⟩)
          by_cases hod : y' % 2 = 1
          · have hand : bits .and .u32 y' 1 = 1 := (u32_and1 y').trans hod
            have hbit : Hid (crcBit y' = bits .xor .u32 (y' / 2) 3988292384) := by show crcBit y' = _; unfold crcBit; rw [if_pos hod]
            go_wp2
            go_round
            case rel => exact ⟨k + 1, crcBit y', by go_num, by omega, by rw [hbit.out], hr2.out.1, hr2.out.2, hN2⟩
            case measure => simp [intOf]; omega
          · have hand : bits .and .u32 y' 1 = 0 := (u32_and1 y').trans (by omega)
            have hbit : Hid (crcBit y' = y' / 2) := by show crcBit y' = _; unfold crcBit; rw [if_neg hod]
            go_wp2
            go_round
            case rel => exact ⟨k + 1, crcBit y', by go_num, by omega, by rw [hbit.out, u32_xor0 _ (by omega)], hr2.out.1, hr2.out.2, hN2⟩
            case measure => simp [intOf]; omega
        · obtain rfl : k = 8 := by omega
          have hr8 := hN.out
          rw [Nat.sub_self] at hr8
          have hr8 : y' = _ := hr8
          have HY := Lib.hid hr8
          clear hr8
          go_wp2
          go_round
          case rel => exact ⟨i + 1, y', by go_num, by omega, rfl, hy1', hy2', by rw [HY.out]; exact hG2⟩
          case measure => simp [intOf]; omega
    · have hG3 := hG.out
      rw [List.drop_of_length_le (by rw [Hlen.out]; omega)] at hG3
      have hG3 : y = _ := hG3
      have HY := Lib.hid hG3
      clear hG3
      go_wp2
      go_ret
      exact ⟨by rw [← HY.out]; rfl, rfl⟩

set_option maxHeartbeats 4000000 in
set_option maxRecDepth 100000 in
theorem rMore_any (A : Option Addr) (n c : Nat) (bs : List Int) (x : Int) (w : World) (F : Foot) (hb : RS (kInt .u8) w F A n bs) (hn : n ≤ 1000000000000) (hB : Bytes bs) :
    Calls Tryd.prog 171 #[.int .u32 x, .slice A n c] w fun e w' => e = .returned (.int .u32 (crcMore x bs)) ∧ w' = w := by
  have h0 := bits_u32 .xor IntKind.u32.max x
  have Hlen := Lib.hid hb.length
  unfold crcMore
  go_enter Tryd.func171, Tryd.ntmps171
  go_wp2
  go_loop [5, 6] (fun v q => ∃ (i : Nat) (y : Int), q = .int .i64 i ∧ i ≤ n ∧ v = .int .u32 y ∧ 0 ≤ y ∧ y < 4294967296 ∧ Hid (crcGo (bs.drop i) y = crcGo bs (bits .xor .u32 IntKind.u32.max x))) (fun _ q => n - (intOf q).toNat)
  case atStart => exact ⟨0, _, rfl, Nat.zero_le _, rfl, h0.1, h0.2, rfl⟩
  case round =>
    obtain ⟨i, y, rfl, hi, rfl, hy1, hy2, hG⟩ := hrel
    by_cases hlt : i < n
    · obtain ⟨z, hz⟩ : ∃ z, bs[i]? = some z := ⟨_, List.getElem?_eq_getElem (by rw [Hlen.out]; exact hlt)⟩
      obtain ⟨ad, hA0, hFa, k0⟩ := at_int hb hz
      obtain ⟨hz1, hz2⟩ := hB z (List.mem_of_getElem? hz)
      subst hA0
      have hG2 : Hid (crcGo (bs.drop (i + 1)) (crcN 8 (bits .xor .u32 y z)) = crcGo bs (bits .xor .u32 IntKind.u32.max x)) := by
        obtain ⟨h1, h2⟩ := List.getElem?_eq_some_iff.1 hz
        have := hG.out
        rw [List.drop_eq_getElem_cons h1, h2] at this
        exact this
      have hb3 := bits_u32 .xor y z
      clear hz hb
      go_wp2
      go_loop [5, 7] (fun v q => ∃ (k : Nat) (y' : Int), q = .int .i64 k ∧ k ≤ 8 ∧ v = .int .u32 y' ∧ 0 ≤ y' ∧ y' < 4294967296 ∧ Hid (crcN (8 - k) y' = crcN 8 (bits .xor .u32 y z))) (fun _ q => 8 - (intOf q).toNat)
      case atStart => exact ⟨0, _, rfl, Nat.zero_le _, rfl, hb3.1, hb3.2, rfl⟩
      case round =>
        obtain ⟨k, y', rfl, hk, rfl, hy1', hy2', hN⟩ := hrel
        by_cases hlt : k < 8
        · obtain ⟨k', hk'⟩ : ∃ k', 8 - k = k' + 1 := ⟨7 - k, by omega⟩
          have hN2 : Hid (crcN (8 - (k + 1)) (crcBit y') = crcN 8 (bits .xor .u32 y z)) := by
            have := hN.out
            rw [hk'] at this
            rw [show 8 - (k + 1) = k' by omega]
            exact this
          clear hk'
          have hr2 := Lib.hid (crcBit_range y' ⟨hy1', hy2'⟩)
          by_cases hod : y' % 2 = 1
          · have hand : bits .and .u32 y' 1 = 1 := (u32_and1 y').trans hod
            have hbit : Hid (crcBit y' = bits .xor .u32 (y' / 2) 3988292384) := by show crcBit y' = _; unfold crcBit; rw [if_pos hod]
            go_wp2
            go_round
            case rel => exact ⟨k + 1, crcBit y', by go_num, by omega, by rw [hbit.out], hr2.out.1, hr2.out.2, hN2⟩
            case measure => simp [intOf]; omega
          · have hand : bits .and .u32 y' 1 = 0 := (u32_and1 y').trans (by omega)
            have hbit : Hid (crcBit y' = y' / 2) := by show crcBit y' = _; unfold crcBit; rw [if_neg hod]
            go_wp2
            go_round
            case rel => exact ⟨k + 1, crcBit y', by go_num, by omega, by rw [hbit.out], hr2.out.1, hr2.out.2, hN2⟩
            case measure => simp [intOf]; omega
        · obtain rfl : k = 8 := by omega
          have hr8 := hN.out
          rw [Nat.sub_self] at hr8
          have hr8 : y' = _ := hr8
          have HY := Lib.hid hr8
          clear hr8
          go_wp2
          go_round
          case rel => exact ⟨i + 1, y', by go_num, by omega, rfl, hy1', hy2', by rw [HY.out]; exact hG2⟩
          case measure => simp [intOf]; omega
    · have hG3 := hG.out
      rw [List.drop_of_length_le (by rw [Hlen.out]; omega)] at hG3
      have hG3 : y = _ := hG3
      have HY := Lib.hid hG3
      clear hG3
      go_wp2
      go_ret
      exact ⟨by rw [← HY.out]; rfl, rfl⟩

theorem cSum_any (A : Option Addr) (n c : Nat) (bs : List Int) (w : World) (F : Foot) (hb : RS (kInt .u8) w F A n bs) (hn : n ≤ 1000000000000) (hB : Bytes bs) :
    Calls Tryd.prog 100 #[.slice A n c] w fun e w' => e = .returned (.int .u32 (crcSum bs)) ∧ w' = w := by
  go_enter Tryd.func100, Tryd.ntmps100
  go_wp2_with fail
  refine (cMore_any A n c bs 0 w F hb hn hB).mono ?_
  rintro e w' ⟨rfl, rfl⟩
  go_wp2
  go_ret
  exact ⟨rfl, rfl⟩
theorem rSum_any (A : Option Addr) (n c : Nat) (bs : List Int) (w : World) (F : Foot) (hb : RS (kInt .u8) w F A n bs) (hn : n ≤ 1000000000000) (hB : Bytes bs) :
    Calls Tryd.prog 146 #[.slice A n c] w fun e w' => e = .returned (.int .u32 (crcSum bs)) ∧ w' = w := by
  go_enter Tryd.func146, Tryd.ntmps146
  go_wp2_with fail
  refine (rMore_any A n c bs 0 w F hb hn hB).mono ?_
  rintro e w' ⟨rfl, rfl⟩
  go_wp2
  go_ret
  exact ⟨rfl, rfl⟩
end Go.Proofs.YtfjndjbpgcggkaaDoor
