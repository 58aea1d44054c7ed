/- The reference's cut and digits. -/
import Derived.Test.YtngmipppgnlkdaaDoorDG5
set_option linter.unusedVariables false
set_option linter.unusedSimpArgs false
namespace Go.Proofs.YtngmipppgnlkdaaDoor
open Go.RowKit

set_option maxHeartbeats 1000000 in
theorem rcut_any (n lo hi : Int) (w : World) (hl : lo ≤ hi) :
    Calls Tryd.prog 35 #[.int .i64 n, .int .i64 lo, .int .i64 hi] w fun e w' => e = .returned (.int .i64 (if n < lo then lo else if hi < n then hi else n)) ∧ w' = w := by
  by_cases h1 : n < lo
  · rw [if_pos h1]
    go_enter Tryd.func35, Tryd.ntmps35
    go_wp2
    go_ret
    exact ⟨rfl, rfl⟩
  rw [if_neg h1]
  by_cases h2 : hi < n
  · rw [if_pos h2]
    go_enter Tryd.func35, Tryd.ntmps35
    go_wp2
    go_ret
    exact ⟨rfl, rfl⟩
  · rw [if_neg h2]
    go_enter Tryd.func35, Tryd.ntmps35
    go_wp2
    go_ret
    exact ⟨rfl, rfl⟩

theorem dec_small {i : Nat} (h : i < 10) : dec i = ⟨#[UInt8.ofNat (48 + i)]⟩ := by
  unfold dec
  rw [Lib.decDigits_one h]
theorem dec_big {i : Nat} (h : ¬ i < 10) : dec i = dec (i / 10) ++ ⟨#[UInt8.ofNat (48 + i % 10)]⟩ := by
  have : Lib.decDigits i = Lib.decDigits (i / 10) ++ [UInt8.ofNat (48 + i % 10)] := by
    rw [Lib.decDigits, dif_neg h]
  unfold dec
  rw [this]
  apply ByteArray.ext
  simp
theorem digit_cut : ∀ d : Nat, d < 10 → (⟨#[48, 49, 50, 51, 52, 53, 54, 55, 56, 57]⟩ : ByteArray).extract d (d + 1) = ⟨#[UInt8.ofNat (48 + d)]⟩ := by
  intro d hd
  have : ∀ d : Fin 10, (⟨#[48, 49, 50, 51, 52, 53, 54, 55, 56, 57]⟩ : ByteArray).extract d.1 (d.1 + 1) = ⟨#[UInt8.ofNat (48 + d.1)]⟩ := by decide +kernel
  exact this ⟨d, hd⟩

set_option maxHeartbeats 1000000 in
theorem Digits_any : ∀ (n : Nat), n ≤ 1000000 → ∀ w : World,
    Calls Tryd.prog 36 #[.int .i64 n] w fun e w' => e = .returned (.string (dec n)) ∧ w' = w := by
  intro n
  induction n using Nat.strongRecOn with
  | ind n ih =>
    intro hn w
    obtain ⟨d, hd, hd10⟩ : ∃ d : Nat, Hid (n % 10 = d) ∧ d < 10 := ⟨n % 10, rfl, by omega⟩
    have hm : (n : Int) % 10 = (d : Int) := by have := hd.out; omega
    have hcut := digit_cut d hd10
    obtain ⟨c, hc⟩ : ∃ c : UInt8, Hid (UInt8.ofNat (48 + d) = c) := ⟨_, rfl⟩
    rw [hc.out] at hcut
    by_cases h : n < 10
    · have hnd : n = d := by have := hd.out; omega
      have hds : dec n = ⟨#[c]⟩ := by rw [dec_small h, hnd, hc.out]
      clear hnd
      rw [hds]
      clear hds
      go_enter Tryd.func36, Tryd.ntmps36
      go_wp2
      go_ret
      exact ⟨rfl, rfl⟩
    · obtain ⟨q, hq, hq2⟩ : ∃ q : Nat, Hid (n / 10 = q) ∧ q < n := ⟨n / 10, rfl, by omega⟩
      have hdb : Hid (dec n = dec q ++ ⟨#[c]⟩) := by rw [← hq.out, ← hc.out, ← hd.out]; exact dec_big h
      have hqi : (n : Int) / 10 = (q : Int) := by have := hq.out; omega
      have ihq := ih q hq2 (by omega)
      have hqs := dec_size q
      clear ih
      obtain ⟨r, hr⟩ : ∃ r, Hid (dec n = r) := ⟨_, rfl⟩
      rw [hr.out] at hdb ⊢
      go_enter Tryd.func36, Tryd.ntmps36
      go_wp2_with fail
      refine (ihq _).mono ?_
      rintro e w1 ⟨rfl, rfl⟩
      go_wp2
      go_ret
      exact ⟨by rw [hdb.out]; rfl, rfl⟩
end Go.Proofs.YtngmipppgnlkdaaDoor
