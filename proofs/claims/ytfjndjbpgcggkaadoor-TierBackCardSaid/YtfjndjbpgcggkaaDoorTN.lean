/- tier.Name, the document's Name. -/
import Derived.Test.YtfjndjbpgcggkaaDoorVN
set_option linter.unusedVariables false
set_option linter.unusedSimpArgs false
namespace Go.Proofs.YtfjndjbpgcggkaaDoor
open Go.RowKit

theorem dec_small {i : Nat} (h : i < 10) : dec i = ⟨#[UInt8.ofNat (48 + i)]⟩ := by
  unfold dec
  rw [Lib.decDigits_one h]
theorem dec_big {i : Nat} (h : ¬ i < 10) : dec i = dec (i / 10) ++ ⟨#[UInt8.ofNat (48 + i % 10)]⟩ := by
  have : Lib.decDigits i = Lib.decDigits (i / 10) ++ [UInt8.ofNat (48 + i % 10)] := by
    rw [Lib.decDigits, dif_neg h]
  unfold dec
  rw [this]
  apply ByteArray.ext
  simp
theorem digit_cut : ∀ d : Nat, d < 10 → (⟨#[48, 49, 50, 51, 52, 53, 54, 55, 56, 57]⟩ : ByteArray).extract d (d + 1) = ⟨#[UInt8.ofNat (48 + d)]⟩ := by
  intro d hd
  have : ∀ d : Fin 10, (⟨#[48, 49, 50, 51, 52, 53, 54, 55, 56, 57]⟩ : ByteArray).extract d.1 (d.1 + 1) = ⟨#[UInt8.ofNat (48 + d.1)]⟩ := by decide +kernel
  exact this ⟨d, hd⟩
theorem dec_size (u : Nat) (h : u ≤ 9223372036854775807) : (dec u).size ≤ 19 := by
  have := dec_long 18 u (by omega)
  have e : (dec u).size = (Lib.decDigits u).length := by simp [dec, ByteArray.size]
  omega

set_option maxHeartbeats 1000000 in
theorem Digits_any : ∀ (n : Nat), n ≤ 9223372036854775807 → ∀ w : World,
    Calls Tryd.prog 106 #[.int .i64 n] w fun e w' => e = .returned (.string (dec n)) ∧ w' = w := by
  intro n
  induction n using Nat.strongRecOn with
  | ind n ih =>
    intro hn w
    obtain ⟨d, hd, hd10⟩ : ∃ d : Nat, Hid (n % 10 = d) ∧ d < 10 := ⟨n % 10, rfl, by omega⟩
    have hm : (n : Int) % 10 = (d : Int) := by have := hd.out; omega
    have hcut := digit_cut d hd10
    obtain ⟨c, hc⟩ : ∃ c : UInt8, Hid (UInt8.ofNat (48 + d) = c) := ⟨_, rfl⟩
    rw [hc.out] at hcut
    by_cases h : n < 10
    · have hnd : n = d := by have := hd.out; omega
      have hds : dec n = ⟨#[c]⟩ := by rw [dec_small h, hnd, hc.out]
      clear hnd
      rw [hds]
      clear hds
      go_enter Tryd.func106, Tryd.ntmps106
      go_wp2
      go_ret
      exact ⟨rfl, rfl⟩
    · obtain ⟨q, hq, hq2⟩ : ∃ q : Nat, Hid (n / 10 = q) ∧ q < n := ⟨n / 10, rfl, by omega⟩
      have hdb : Hid (dec n = dec q ++ ⟨#[c]⟩) := by rw [← hq.out, ← hc.out, ← hd.out]; exact dec_big h
      have hqi : (n : Int) / 10 = (q : Int) := by have := hq.out; omega
      have ihq := ih q hq2 (by omega)
      have hqs := dec_size q (by omega)
      clear ih
      obtain ⟨r, hr⟩ : ∃ r, Hid (dec n = r) := ⟨_, rfl⟩
      rw [hr.out] at hdb ⊢
      go_enter Tryd.func106, Tryd.ntmps106
      go_wp2_with fail
      refine (ihq _).mono ?_
      rintro e w1 ⟨rfl, rfl⟩
      go_wp2
      go_ret
      exact ⟨by rw [hdb.out]; rfl, rfl⟩

theorem join_name (a b : Nat) {x y : ByteArray} (hx : dec a = x) (hy : dec b = y) : (⟨#[115]⟩ : ByteArray) ++ x ++ ⟨#[46]⟩ ++ y = objName a b := by
  subst hx hy
  rfl
set_option maxHeartbeats 1000000 in
theorem RName_any (a b : Nat) (ha : a ≤ 9223372036854775807) (hb : b ≤ 9223372036854775807) (w : World) :
    Calls Tryd.prog 51 #[.int .i64 a, .int .i64 b] w fun e w' => e = .returned (.string (objName a b)) ∧ w' = w := by
  have sa := dec_size a ha
  have sb := dec_size b hb
  have da := Lib.hid (fun w => Digits_any a ha w)
  have db := Lib.hid (fun w => Digits_any b hb w)
  have hj := Lib.hid (fun (x y : ByteArray) (hx : dec a = x) (hy : dec b = y) => join_name a b hx hy)
  obtain ⟨x, hx⟩ : ∃ x, Hid (dec a = x) := ⟨_, rfl⟩
  obtain ⟨y, hy⟩ : ∃ y, Hid (dec b = y) := ⟨_, rfl⟩
  obtain ⟨z, hz⟩ : ∃ z, Hid (objName a b = z) := ⟨_, rfl⟩
  rw [hx.out] at sa da
  rw [hy.out] at sb db
  rw [hz.out]
  have hj2 : Hid (⟨#[115]⟩ ++ x ++ ⟨#[46]⟩ ++ y = z) := (hj.out x y hx.out hy.out).trans hz.out
  clear hj
  go_enter Tryd.func51, Tryd.ntmps51
  go_wp2_with fail
  refine (da.out w).mono ?_
  rintro e w1 ⟨rfl, hw⟩
  rw [hw]
  clear hw w1
  go_wp2_with fail
  refine (db.out w).mono ?_
  rintro e w1 ⟨rfl, hw⟩
  rw [hw]
  clear hw w1
  go_wp2
  go_ret
  exact ⟨by rw [← hj2.out]; rfl, rfl⟩
set_option maxHeartbeats 1000000 in
theorem Name_any (B a b : Nat) (ha : a ≤ 9223372036854775807) (hb : b ≤ 9223372036854775807) (w : World) (hT : PowBelow B w) (hB : B ≤ w.heap.size) :
    Calls Tryd.prog 50 #[.int .i64 a, .int .i64 b] w fun e w' => e = .returned (.string (objName a b)) ∧ Below w.heap.size w w' := by
  have sa := dec_size a ha
  have sb := dec_size b hb
  have ma : max 0 (a : Int) = a := by omega
  have mb : max 0 (b : Int) = b := by omega
  have da := Lib.hid (fun w hT => itoa_any a ha w (.inr hT))
  have db := Lib.hid (fun w hT => itoa_any b hb w (.inr hT))
  have hj := Lib.hid (fun (x y : ByteArray) (hx : dec a = x) (hy : dec b = y) => join_name a b hx hy)
  obtain ⟨x, hx⟩ : ∃ x, Hid (dec a = x) := ⟨_, rfl⟩
  obtain ⟨y, hy⟩ : ∃ y, Hid (dec b = y) := ⟨_, rfl⟩
  obtain ⟨z, hz⟩ : ∃ z, Hid (objName a b = z) := ⟨_, rfl⟩
  rw [hx.out] at sa da
  rw [hy.out] at sb db
  rw [hz.out]
  have hj2 : Hid (⟨#[115]⟩ ++ x ++ ⟨#[46]⟩ ++ y = z) := (hj.out x y hx.out hy.out).trans hz.out
  have HT := Lib.hid (And.intro hT hB)
  clear hj hT hB
  go_enter Tryd.func50, Tryd.ntmps50
  go_wp2_with fail
  refine (da.out w HT.out.1.here).mono ?_
  rintro e w1 ⟨rfl, h1⟩
  have H1 := Lib.hid h1
  clear h1
  go_wp2_with fail
  refine (db.out w1 (HT.out.1.on (H1.out.mono HT.out.2)).here).mono ?_
  rintro e w2 ⟨rfl, h2⟩
  have H2 := Lib.hid h2
  clear h2
  go_wp2
  go_ret
  exact ⟨by rw [← hj2.out]; rfl, H1.out.trans (H2.out.mono H1.out.size)⟩
end Go.Proofs.YtfjndjbpgcggkaaDoor
