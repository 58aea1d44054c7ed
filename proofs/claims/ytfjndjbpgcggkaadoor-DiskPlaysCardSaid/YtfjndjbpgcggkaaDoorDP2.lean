/- The document's rune1, walked. -/
import Derived.Test.YtfjndjbpgcggkaaDoorDP1
import Derived.Test.YtfjndjbpgcggkaaDoorR
set_option linter.unusedVariables false
set_option linter.unusedSimpArgs false
namespace Go.Proofs.YtfjndjbpgcggkaaDoor
open Go.RowKit Go.Lib

theorem nat_and (n m k : Nat) (hk : (BitVec.ofInt 64 (m : Int)).toNat = 2 ^ k - 1) (hkk : k ≤ 60) : bits .and .i64 (n : Int) (m : Int) = ((n % 2 ^ k : Nat) : Int) ∨ 9223372036854775807 < n := by
  by_cases hn : n ≤ 9223372036854775807
  · left
    have key : (BitVec.ofInt 64 (n : Int) &&& BitVec.ofInt 64 (m : Int)).toNat = n % 2 ^ k := by
      rw [BitVec.toNat_and, BitVec.toNat_ofInt, hk, Nat.and_two_pow_sub_one_eq_mod]
      congr 1
      omega
    show IntKind.i64.wrap ((BitVec.ofInt 64 (n : Int) &&& BitVec.ofInt 64 (m : Int)).toNat : Nat) = _
    rw [key, IntKind.wrap_i64]
    have h1 : n % 2 ^ k < 2 ^ k := Nat.mod_lt _ (Nat.two_pow_pos k)
    have h2 : 2 ^ k ≤ 2 ^ 60 := Nat.pow_le_pow_right (by omega) hkk
    omega
  · right; omega
theorem and31 (n : Nat) (h : n < 256) : bits .and .i64 (n : Int) 31 = ((n % 32 : Nat) : Int) := (nat_and n 31 5 (by decide) (by omega)).resolve_right (by omega)
theorem and15 (n : Nat) (h : n < 256) : bits .and .i64 (n : Int) 15 = ((n % 16 : Nat) : Int) := (nat_and n 15 4 (by decide) (by omega)).resolve_right (by omega)
theorem and7 (n : Nat) (h : n < 256) : bits .and .i64 (n : Int) 7 = ((n % 8 : Nat) : Int) := (nat_and n 7 3 (by decide) (by omega)).resolve_right (by omega)
theorem and63 (n : Nat) (h : n < 256) : bits .and .i64 (n : Int) 63 = ((n % 64 : Nat) : Int) := (nat_and n 63 6 (by decide) (by omega)).resolve_right (by omega)

set_option maxHeartbeats 1000000 in
theorem rune1_asc (t : ByteArray) (w : World) (h : 0 < t.size) (hs : t.size ≤ 35184372088832) (h0 : (t[0].toNat : Int) < 128) :
    Calls Tryd.prog 161 #[.string t] w fun e w' => e = .returned (.tuple #[.int .i64 t[0].toNat, .int .i64 1, .bool true]) ∧ w = w' := by
  go_enter Tryd.func161, Tryd.ntmps161
  go_wp2
  go_ret3
  exact ⟨rfl, rfl⟩
def by_ (t : ByteArray) (k : Nat) : Nat := (t.data.toList.getD k 0).toNat
theorem by_lt (t : ByteArray) (k : Nat) : by_ t k < 256 := UInt8.toNat_lt _
theorem by_eq (t : ByteArray) (k : Nat) (h : k < t.size) : t[k].toNat = by_ t k := by
  unfold by_
  have : t.data.toList.getD k 0 = t[k] := by
    rw [List.getD_eq_getElem?_getD, List.getElem?_eq_getElem (by rw [← size_eq]; exact h)]
    rfl
  rw [this]
/-- The rune's number, after k bytes. -/
def part (t : ByteArray) (c0 : Nat) : Nat → Nat
  | 0 => c0
  | 1 => c0
  | k + 2 => part t c0 (k + 1) * 64 + by_ t (k + 1) % 64
theorem decode_by (t : ByteArray) : decodeL t.data.toList = decodeN t.size (by_ t 0) (by_ t 1) (by_ t 2) (by_ t 3) := by
  rw [decodeL_N, ← size_eq]
  rfl
theorem rr_bad {d : Nat × Nat} (h : d = (65533, 1)) : rr d = (0, 1, false) := by rw [h]; rfl
def Rune1 (t : ByteArray) (w : World) (en : Ending) (w' : World) : Prop := en = .returned (.tuple #[.int .i64 ((rr (decodeL t.data.toList)).1 : Nat), .int .i64 ((rr (decodeL t.data.toList)).2.1 : Nat), .bool (rr (decodeL t.data.toList)).2.2]) ∧ w = w'
theorem Rune1.bad {t : ByteArray} {w : World} (h : decodeL t.data.toList = (65533, 1)) : Rune1 t w (.returned (.tuple #[.int .i64 0, .int .i64 1, .bool false])) w := by
  unfold Rune1
  rw [rr_bad h]
  exact ⟨rfl, rfl⟩
theorem Rune1.good {t : ByteArray} {w : World} {c n : Nat} (h : decodeL t.data.toList = (c, n)) (hn : n ≠ 1 ∨ c ≠ 65533) : Rune1 t w (.returned (.tuple #[.int .i64 (c : Nat), .int .i64 (n : Nat), .bool true])) w := by
  unfold Rune1
  have : rr (decodeL t.data.toList) = (c, n, true) := by
    rw [h]
    unfold rr
    rw [if_neg (by simp only; omega)]
  rw [this]
  exact ⟨rfl, rfl⟩

theorem dec_bad2 (t : ByteArray) (h1 : 194 ≤ by_ t 0) (h2 : by_ t 0 < 224) (h : t.size < 2 ∨ (∃ k, 1 ≤ k ∧ k < 2 ∧ by_ t k / 64 ≠ 2)) : decodeL t.data.toList = (65533, 1) := by
  rw [decode_by]
  have hh : t.size < 2 ∨ by_ t 1 / 64 ≠ 2 := by
    rcases h with h | ⟨k, k1, k2, h⟩
    · exact .inl h
    · have : k = 1 := by omega
      rcases this with rfl <;> simp [h]
  clear h
  generalize by_ t 0 = b0 at *
  generalize by_ t 1 = b1 at *
  generalize by_ t 2 = b2 at *
  generalize by_ t 3 = b3 at *
  unfold decodeN
  repeat' split
  all_goals first | rfl | (exfalso; omega)
theorem dec_end2 (t : ByteArray) (h1 : 194 ≤ by_ t 0) (h2 : by_ t 0 < 224) (hs : 2 ≤ t.size) (h : ∀ k, 1 ≤ k → k < 2 → by_ t k / 64 = 2) :
    decodeL t.data.toList = if 128 ≤ part t (by_ t 0 % 32) 2 ∧ part t (by_ t 0 % 32) 2 ≤ 1114111 ∧ ¬ (55296 ≤ part t (by_ t 0 % 32) 2 ∧ part t (by_ t 0 % 32) 2 ≤ 57343) then (part t (by_ t 0 % 32) 2, 2) else (65533, 1) := by
  rw [decode_by]
  have c1 := h 1 (by omega) (by omega)
  clear h
  simp only [part, Nat.zero_add, Nat.reduceAdd]
  generalize by_ t 0 = b0 at *
  generalize by_ t 1 = b1 at *
  generalize by_ t 2 = b2 at *
  generalize by_ t 3 = b3 at *
  unfold decodeN
  repeat' split
  all_goals first | rfl | (exfalso; omega) | (refine Prod.ext ?_ rfl; simp only; omega)
theorem part_le2 (t : ByteArray) (c0 : Nat) (hc : c0 < 32) : ∀ k, 1 ≤ k → k ≤ 2 → part t c0 k < 4194304 := by
  intro k h1 h2
  have b1 := Nat.mod_lt (by_ t 1) (show 0 < 64 by omega)
  have b2 := Nat.mod_lt (by_ t 2) (show 0 < 64 by omega)
  have b3 := Nat.mod_lt (by_ t 3) (show 0 < 64 by omega)
  have : k = 1 ∨ k = 2 := by omega
  rcases this with rfl | rfl <;> simp only [part, Nat.zero_add, Nat.reduceAdd] <;> omega

set_option maxRecDepth 100000 in
set_option maxHeartbeats 4000000 in
theorem rune1_lead2 (t : ByteArray) (w : World) (h : 0 < t.size) (hs : t.size ≤ 35184372088832) (h0 : 194 ≤ by_ t 0) (h1 : by_ t 0 < 224) :
    Calls Tryd.prog 161 #[.string t] w (Rune1 t w) := by
  have e0 := by_eq t 0 h
  have a0 := and31 (by_ t 0) (by_lt t 0)
  by_cases hsz : t.size < 2
  · have hfin := Lib.hid (Rune1.bad (w := w) (dec_bad2 t h0 h1 (.inl hsz)))
    go_enter Tryd.func161, Tryd.ntmps161
    go_wp2
    go_ret3
    exact hfin.out
  · have hsz' : 2 ≤ t.size := by omega
    clear hsz
    have HB := Lib.hid (fun k (k1 : 1 ≤ k) (k2 : k < 2) (h : by_ t k / 64 ≠ 2) => Rune1.bad (w := w) (dec_bad2 t h0 h1 (.inr ⟨k, k1, k2, h⟩)))
    have HE := Lib.hid (dec_end2 t h0 h1 hsz')
    have HP := Lib.hid (part_le2 t (by_ t 0 % 32) (Nat.mod_lt _ (by omega)))
    obtain ⟨c0, hc0⟩ : ∃ c0, Hid (by_ t 0 % 32 = c0) := ⟨_, rfl⟩
    rw [hc0.out] at a0 HE HP
    go_enter Tryd.func161, Tryd.ntmps161
    go_wp2
    go_loop [2, 3, 4, 8, 9] (fun r2 r3 r4 c i => ∃ k : Nat, r2 = .int .i64 0 ∧ r3 = .int .i64 0 ∧ r4 = .bool false ∧ 1 ≤ k ∧ k ≤ 2 ∧ i = .int .i64 k ∧ c = .int .i64 (part t c0 k : Nat) ∧ Hid (∀ j, 1 ≤ j → j < k → by_ t j / 64 = 2)) (fun _ _ _ _ i => 2 - (RowKit.intOf i).toNat)
    case atStart => exact ⟨1, rfl, rfl, rfl, by omega, by omega, rfl, rfl, fun j h1 h2 => by omega⟩
    case round =>
      obtain ⟨k, rfl, rfl, rfl, k1, k2, rfl, rfl, hcont⟩ := hrel
      have hpk := HP.out k k1 k2
      obtain ⟨pk, hpkk⟩ : ∃ p, Hid (part t c0 k = p) := ⟨_, rfl⟩
      rw [hpkk.out] at hpk ⊢
      by_cases hlt : k < 2
      · have hks : k < t.size := by omega
        have ek := by_eq t k hks
        have ak := and63 (by_ t k) (by_lt t k)
        have bk := by_lt t k
        obtain ⟨y, hy⟩ : ∃ y, Hid (by_ t k = y) := ⟨_, rfl⟩
        rw [hy.out] at ek ak bk
        by_cases hc : 128 ≤ y ∧ y ≤ 191
        · obtain ⟨hc1, hc2⟩ := hc
          go_wp2
          go_round
          case rel =>
            refine ⟨.int .i64 0, .int .i64 0, .bool false, .int .i64 (part t c0 (k + 1) : Nat), .int .i64 ((k + 1 : Nat) : Int), ⟨rfl, rfl, rfl, k + 1, by omega, by omega, rfl, rfl, fun j j1 j2 => ?_⟩, rfl, rfl, rfl, ?_, by go_num⟩
            · rcases Nat.lt_or_ge j k with hj | hj
              · exact hcont.out j j1 hj
              · obtain rfl : j = k := by omega
                have := hy.out
                omega
            · obtain ⟨k', rfl⟩ : ∃ k', k = k' + 1 := ⟨k - 1, by omega⟩
              show _ = Value.int .i64 ((part t c0 (k' + 1) * 64 + by_ t (k' + 1) % 64 : Nat) : Int)
              rw [hpkk.out, hy.out]
              go_num
          case measure => simp [RowKit.intOf]; omega
        · have hfin := Lib.hid (HB.out k k1 hlt (by have := hy.out; omega))
          by_cases hc1 : y < 128
          · clear hc
            go_wp2
            go_ret3
            exact hfin.out
          · have hc2 : 191 < y := by omega
            have hc1' : 128 ≤ y := by omega
            clear hc hc1
            go_wp2
            go_ret3
            exact hfin.out
      · obtain rfl : k = 2 := by omega
        have hE := HE.out (fun j j1 j2 => hcont.out j j1 j2)
        rw [hpkk.out] at hE
        by_cases q1 : pk < 128
        · have hfin := Lib.hid (Rune1.bad (w := w) (hE.trans (if_neg (by omega))))
          clear hE hlt
          go_wp2
          go_ret3
          exact hfin.out
        · have q1' : 128 ≤ pk := by omega
          by_cases q2 : 1114111 < pk
          · have hfin := Lib.hid (Rune1.bad (w := w) (hE.trans (if_neg (by omega))))
            clear hE hlt q1
            go_wp2
            go_ret3
            exact hfin.out
          · have q2' : pk ≤ 1114111 := by omega
            by_cases q3 : 55296 ≤ pk
            · by_cases q4 : pk ≤ 57343
              · first
                  | (exfalso; omega)
                  | (have hfin := Lib.hid (Rune1.bad (w := w) (hE.trans (if_neg (by omega))))
                     clear hE hlt q1 q2
                     go_wp2
                     go_ret3
                     exact hfin.out)
              · have q4' : 57343 < pk := by omega
                have hfin := Lib.hid (Rune1.good (w := w) (hE.trans (if_pos (by omega))) (.inl (by omega)))
                clear hE hlt q1 q2 q4
                go_wp2
                go_ret3
                exact hfin.out
            · first
                | (exfalso; omega)
                | (have q3' : pk < 55296 := by omega
                   have hfin := Lib.hid (Rune1.good (w := w) (hE.trans (if_pos (by omega))) (.inl (by omega)))
                   clear hE hlt q1 q2 q3
                   go_wp2
                   go_ret3
                   exact hfin.out)

theorem dec_bad3 (t : ByteArray) (h1 : 224 ≤ by_ t 0) (h2 : by_ t 0 < 240) (h : t.size < 3 ∨ (∃ k, 1 ≤ k ∧ k < 3 ∧ by_ t k / 64 ≠ 2)) : decodeL t.data.toList = (65533, 1) := by
  rw [decode_by]
  have hh : t.size < 3 ∨ by_ t 1 / 64 ≠ 2 ∨ by_ t 2 / 64 ≠ 2 := by
    rcases h with h | ⟨k, k1, k2, h⟩
    · exact .inl h
    · have : k = 1 ∨ k = 2 := by omega
      rcases this with rfl | rfl <;> simp [h]
  clear h
  generalize by_ t 0 = b0 at *
  generalize by_ t 1 = b1 at *
  generalize by_ t 2 = b2 at *
  generalize by_ t 3 = b3 at *
  unfold decodeN
  repeat' split
  all_goals first | rfl | (exfalso; omega)
theorem dec_end3 (t : ByteArray) (h1 : 224 ≤ by_ t 0) (h2 : by_ t 0 < 240) (hs : 3 ≤ t.size) (h : ∀ k, 1 ≤ k → k < 3 → by_ t k / 64 = 2) :
    decodeL t.data.toList = if 2048 ≤ part t (by_ t 0 % 16) 3 ∧ part t (by_ t 0 % 16) 3 ≤ 1114111 ∧ ¬ (55296 ≤ part t (by_ t 0 % 16) 3 ∧ part t (by_ t 0 % 16) 3 ≤ 57343) then (part t (by_ t 0 % 16) 3, 3) else (65533, 1) := by
  rw [decode_by]
  have c1 := h 1 (by omega) (by omega)
  have c2 := h 2 (by omega) (by omega)
  clear h
  simp only [part, Nat.zero_add, Nat.reduceAdd]
  generalize by_ t 0 = b0 at *
  generalize by_ t 1 = b1 at *
  generalize by_ t 2 = b2 at *
  generalize by_ t 3 = b3 at *
  unfold decodeN
  repeat' split
  all_goals first | rfl | (exfalso; omega) | (refine Prod.ext ?_ rfl; simp only; omega)
theorem part_le3 (t : ByteArray) (c0 : Nat) (hc : c0 < 16) : ∀ k, 1 ≤ k → k ≤ 3 → part t c0 k < 4194304 := by
  intro k h1 h2
  have b1 := Nat.mod_lt (by_ t 1) (show 0 < 64 by omega)
  have b2 := Nat.mod_lt (by_ t 2) (show 0 < 64 by omega)
  have b3 := Nat.mod_lt (by_ t 3) (show 0 < 64 by omega)
  have : k = 1 ∨ k = 2 ∨ k = 3 := by omega
  rcases this with rfl | rfl | rfl <;> simp only [part, Nat.zero_add, Nat.reduceAdd] <;> omega

set_option maxRecDepth 100000 in
set_option maxHeartbeats 4000000 in
theorem rune1_lead3 (t : ByteArray) (w : World) (h : 0 < t.size) (hs : t.size ≤ 35184372088832) (h0 : 224 ≤ by_ t 0) (h1 : by_ t 0 < 240) :
    Calls Tryd.prog 161 #[.string t] w (Rune1 t w) := by
  have e0 := by_eq t 0 h
  have a0 := and15 (by_ t 0) (by_lt t 0)
  by_cases hsz : t.size < 3
  · have hfin := Lib.hid (Rune1.bad (w := w) (dec_bad3 t h0 h1 (.inl hsz)))
    go_enter Tryd.func161, Tryd.ntmps161
    go_wp2
    go_ret3
    exact hfin.out
  · have hsz' : 3 ≤ t.size := by omega
    clear hsz
    have HB := Lib.hid (fun k (k1 : 1 ≤ k) (k2 : k < 3) (h : by_ t k / 64 ≠ 2) => Rune1.bad (w := w) (dec_bad3 t h0 h1 (.inr ⟨k, k1, k2, h⟩)))
    have HE := Lib.hid (dec_end3 t h0 h1 hsz')
    have HP := Lib.hid (part_le3 t (by_ t 0 % 16) (Nat.mod_lt _ (by omega)))
    obtain ⟨c0, hc0⟩ : ∃ c0, Hid (by_ t 0 % 16 = c0) := ⟨_, rfl⟩
    rw [hc0.out] at a0 HE HP
    go_enter Tryd.func161, Tryd.ntmps161
    go_wp2
    go_loop [2, 3, 4, 8, 9] (fun r2 r3 r4 c i => ∃ k : Nat, r2 = .int .i64 0 ∧ r3 = .int .i64 0 ∧ r4 = .bool false ∧ 1 ≤ k ∧ k ≤ 3 ∧ i = .int .i64 k ∧ c = .int .i64 (part t c0 k : Nat) ∧ Hid (∀ j, 1 ≤ j → j < k → by_ t j / 64 = 2)) (fun _ _ _ _ i => 3 - (RowKit.intOf i).toNat)
    case atStart => exact ⟨1, rfl, rfl, rfl, by omega, by omega, rfl, rfl, fun j h1 h2 => by omega⟩
    case round =>
      obtain ⟨k, rfl, rfl, rfl, k1, k2, rfl, rfl, hcont⟩ := hrel
      have hpk := HP.out k k1 k2
      obtain ⟨pk, hpkk⟩ : ∃ p, Hid (part t c0 k = p) := ⟨_, rfl⟩
      rw [hpkk.out] at hpk ⊢
      by_cases hlt : k < 3
      · have hks : k < t.size := by omega
        have ek := by_eq t k hks
        have ak := and63 (by_ t k) (by_lt t k)
        have bk := by_lt t k
        obtain ⟨y, hy⟩ : ∃ y, Hid (by_ t k = y) := ⟨_, rfl⟩
        rw [hy.out] at ek ak bk
        by_cases hc : 128 ≤ y ∧ y ≤ 191
        · obtain ⟨hc1, hc2⟩ := hc
          go_wp2
          go_round
          case rel =>
            refine ⟨.int .i64 0, .int .i64 0, .bool false, .int .i64 (part t c0 (k + 1) : Nat), .int .i64 ((k + 1 : Nat) : Int), ⟨rfl, rfl, rfl, k + 1, by omega, by omega, rfl, rfl, fun j j1 j2 => ?_⟩, rfl, rfl, rfl, ?_, by go_num⟩
            · rcases Nat.lt_or_ge j k with hj | hj
              · exact hcont.out j j1 hj
              · obtain rfl : j = k := by omega
                have := hy.out
                omega
            · obtain ⟨k', rfl⟩ : ∃ k', k = k' + 1 := ⟨k - 1, by omega⟩
              show _ = Value.int .i64 ((part t c0 (k' + 1) * 64 + by_ t (k' + 1) % 64 : Nat) : Int)
              rw [hpkk.out, hy.out]
              go_num
          case measure => simp [RowKit.intOf]; omega
        · have hfin := Lib.hid (HB.out k k1 hlt (by have := hy.out; omega))
          by_cases hc1 : y < 128
          · clear hc
            go_wp2
            go_ret3
            exact hfin.out
          · have hc2 : 191 < y := by omega
            have hc1' : 128 ≤ y := by omega
            clear hc hc1
            go_wp2
            go_ret3
            exact hfin.out
      · obtain rfl : k = 3 := by omega
        have hE := HE.out (fun j j1 j2 => hcont.out j j1 j2)
        rw [hpkk.out] at hE
        by_cases q1 : pk < 2048
        · have hfin := Lib.hid (Rune1.bad (w := w) (hE.trans (if_neg (by omega))))
          clear hE hlt
          go_wp2
          go_ret3
          exact hfin.out
        · have q1' : 2048 ≤ pk := by omega
          by_cases q2 : 1114111 < pk
          · have hfin := Lib.hid (Rune1.bad (w := w) (hE.trans (if_neg (by omega))))
            clear hE hlt q1
            go_wp2
            go_ret3
            exact hfin.out
          · have q2' : pk ≤ 1114111 := by omega
            by_cases q3 : 55296 ≤ pk
            · by_cases q4 : pk ≤ 57343
              · first
                  | (exfalso; omega)
                  | (have hfin := Lib.hid (Rune1.bad (w := w) (hE.trans (if_neg (by omega))))
                     clear hE hlt q1 q2
                     go_wp2
                     go_ret3
                     exact hfin.out)
              · have q4' : 57343 < pk := by omega
                have hfin := Lib.hid (Rune1.good (w := w) (hE.trans (if_pos (by omega))) (.inl (by omega)))
                clear hE hlt q1 q2 q4
                go_wp2
                go_ret3
                exact hfin.out
            · first
                | (exfalso; omega)
                | (have q3' : pk < 55296 := by omega
                   have hfin := Lib.hid (Rune1.good (w := w) (hE.trans (if_pos (by omega))) (.inl (by omega)))
                   clear hE hlt q1 q2 q3
                   go_wp2
                   go_ret3
                   exact hfin.out)

theorem dec_bad4 (t : ByteArray) (h1 : 240 ≤ by_ t 0) (h2 : by_ t 0 < 245) (h : t.size < 4 ∨ (∃ k, 1 ≤ k ∧ k < 4 ∧ by_ t k / 64 ≠ 2)) : decodeL t.data.toList = (65533, 1) := by
  rw [decode_by]
  have hh : t.size < 4 ∨ by_ t 1 / 64 ≠ 2 ∨ by_ t 2 / 64 ≠ 2 ∨ by_ t 3 / 64 ≠ 2 := by
    rcases h with h | ⟨k, k1, k2, h⟩
    · exact .inl h
    · have : k = 1 ∨ k = 2 ∨ k = 3 := by omega
      rcases this with rfl | rfl | rfl <;> simp [h]
  clear h
  generalize by_ t 0 = b0 at *
  generalize by_ t 1 = b1 at *
  generalize by_ t 2 = b2 at *
  generalize by_ t 3 = b3 at *
  unfold decodeN
  repeat' split
  all_goals first | rfl | (exfalso; omega)
theorem dec_end4 (t : ByteArray) (h1 : 240 ≤ by_ t 0) (h2 : by_ t 0 < 245) (hs : 4 ≤ t.size) (h : ∀ k, 1 ≤ k → k < 4 → by_ t k / 64 = 2) :
    decodeL t.data.toList = if 65536 ≤ part t (by_ t 0 % 8) 4 ∧ part t (by_ t 0 % 8) 4 ≤ 1114111 ∧ ¬ (55296 ≤ part t (by_ t 0 % 8) 4 ∧ part t (by_ t 0 % 8) 4 ≤ 57343) then (part t (by_ t 0 % 8) 4, 4) else (65533, 1) := by
  rw [decode_by]
  have c1 := h 1 (by omega) (by omega)
  have c2 := h 2 (by omega) (by omega)
  have c3 := h 3 (by omega) (by omega)
  clear h
  simp only [part, Nat.zero_add, Nat.reduceAdd]
  generalize by_ t 0 = b0 at *
  generalize by_ t 1 = b1 at *
  generalize by_ t 2 = b2 at *
  generalize by_ t 3 = b3 at *
  unfold decodeN
  repeat' split
  all_goals first | rfl | (exfalso; omega) | (refine Prod.ext ?_ rfl; simp only; omega)
theorem part_le4 (t : ByteArray) (c0 : Nat) (hc : c0 < 8) : ∀ k, 1 ≤ k → k ≤ 4 → part t c0 k < 4194304 := by
  intro k h1 h2
  have b1 := Nat.mod_lt (by_ t 1) (show 0 < 64 by omega)
  have b2 := Nat.mod_lt (by_ t 2) (show 0 < 64 by omega)
  have b3 := Nat.mod_lt (by_ t 3) (show 0 < 64 by omega)
  have : k = 1 ∨ k = 2 ∨ k = 3 ∨ k = 4 := by omega
  rcases this with rfl | rfl | rfl | rfl <;> simp only [part, Nat.zero_add, Nat.reduceAdd] <;> omega

set_option maxRecDepth 100000 in
set_option maxHeartbeats 4000000 in
theorem rune1_lead4 (t : ByteArray) (w : World) (h : 0 < t.size) (hs : t.size ≤ 35184372088832) (h0 : 240 ≤ by_ t 0) (h1 : by_ t 0 < 245) :
    Calls Tryd.prog 161 #[.string t] w (Rune1 t w) := by
  have e0 := by_eq t 0 h
  have a0 := and7 (by_ t 0) (by_lt t 0)
  by_cases hsz : t.size < 4
  · have hfin := Lib.hid (Rune1.bad (w := w) (dec_bad4 t h0 h1 (.inl hsz)))
    go_enter Tryd.func161, Tryd.ntmps161
    go_wp2
    go_ret3
    exact hfin.out
  · have hsz' : 4 ≤ t.size := by omega
    clear hsz
    have HB := Lib.hid (fun k (k1 : 1 ≤ k) (k2 : k < 4) (h : by_ t k / 64 ≠ 2) => Rune1.bad (w := w) (dec_bad4 t h0 h1 (.inr ⟨k, k1, k2, h⟩)))
    have HE := Lib.hid (dec_end4 t h0 h1 hsz')
    have HP := Lib.hid (part_le4 t (by_ t 0 % 8) (Nat.mod_lt _ (by omega)))
    obtain ⟨c0, hc0⟩ : ∃ c0, Hid (by_ t 0 % 8 = c0) := ⟨_, rfl⟩
    rw [hc0.out] at a0 HE HP
    go_enter Tryd.func161, Tryd.ntmps161
    go_wp2
    go_loop [2, 3, 4, 8, 9] (fun r2 r3 r4 c i => ∃ k : Nat, r2 = .int .i64 0 ∧ r3 = .int .i64 0 ∧ r4 = .bool false ∧ 1 ≤ k ∧ k ≤ 4 ∧ i = .int .i64 k ∧ c = .int .i64 (part t c0 k : Nat) ∧ Hid (∀ j, 1 ≤ j → j < k → by_ t j / 64 = 2)) (fun _ _ _ _ i => 4 - (RowKit.intOf i).toNat)
    case atStart => exact ⟨1, rfl, rfl, rfl, by omega, by omega, rfl, rfl, fun j h1 h2 => by omega⟩
    case round =>
      obtain ⟨k, rfl, rfl, rfl, k1, k2, rfl, rfl, hcont⟩ := hrel
      have hpk := HP.out k k1 k2
      obtain ⟨pk, hpkk⟩ : ∃ p, Hid (part t c0 k = p) := ⟨_, rfl⟩
      rw [hpkk.out] at hpk ⊢
      by_cases hlt : k < 4
      · have hks : k < t.size := by omega
        have ek := by_eq t k hks
        have ak := and63 (by_ t k) (by_lt t k)
        have bk := by_lt t k
        obtain ⟨y, hy⟩ : ∃ y, Hid (by_ t k = y) := ⟨_, rfl⟩
        rw [hy.out] at ek ak bk
        by_cases hc : 128 ≤ y ∧ y ≤ 191
        · obtain ⟨hc1, hc2⟩ := hc
          go_wp2
          go_round
          case rel =>
            refine ⟨.int .i64 0, .int .i64 0, .bool false, .int .i64 (part t c0 (k + 1) : Nat), .int .i64 ((k + 1 : Nat) : Int), ⟨rfl, rfl, rfl, k + 1, by omega, by omega, rfl, rfl, fun j j1 j2 => ?_⟩, rfl, rfl, rfl, ?_, by go_num⟩
            · rcases Nat.lt_or_ge j k with hj | hj
              · exact hcont.out j j1 hj
              · obtain rfl : j = k := by omega
                have := hy.out
                omega
            · obtain ⟨k', rfl⟩ : ∃ k', k = k' + 1 := ⟨k - 1, by omega⟩
              show _ = Value.int .i64 ((part t c0 (k' + 1) * 64 + by_ t (k' + 1) % 64 : Nat) : Int)
              rw [hpkk.out, hy.out]
              go_num
          case measure => simp [RowKit.intOf]; omega
        · have hfin := Lib.hid (HB.out k k1 hlt (by have := hy.out; omega))
          by_cases hc1 : y < 128
          · clear hc
            go_wp2
            go_ret3
            exact hfin.out
          · have hc2 : 191 < y := by omega
            have hc1' : 128 ≤ y := by omega
            clear hc hc1
            go_wp2
            go_ret3
            exact hfin.out
      · obtain rfl : k = 4 := by omega
        have hE := HE.out (fun j j1 j2 => hcont.out j j1 j2)
        rw [hpkk.out] at hE
        by_cases q1 : pk < 65536
        · have hfin := Lib.hid (Rune1.bad (w := w) (hE.trans (if_neg (by omega))))
          clear hE hlt
          go_wp2
          go_ret3
          exact hfin.out
        · have q1' : 65536 ≤ pk := by omega
          by_cases q2 : 1114111 < pk
          · have hfin := Lib.hid (Rune1.bad (w := w) (hE.trans (if_neg (by omega))))
            clear hE hlt q1
            go_wp2
            go_ret3
            exact hfin.out
          · have q2' : pk ≤ 1114111 := by omega
            by_cases q3 : 55296 ≤ pk
            · by_cases q4 : pk ≤ 57343
              · first
                  | (exfalso; omega)
                  | (have hfin := Lib.hid (Rune1.bad (w := w) (hE.trans (if_neg (by omega))))
                     clear hE hlt q1 q2
                     go_wp2
                     go_ret3
                     exact hfin.out)
              · have q4' : 57343 < pk := by omega
                have hfin := Lib.hid (Rune1.good (w := w) (hE.trans (if_pos (by omega))) (.inl (by omega)))
                clear hE hlt q1 q2 q4
                go_wp2
                go_ret3
                exact hfin.out
            · first
                | (exfalso; omega)
                | (have q3' : pk < 55296 := by omega
                   have hfin := Lib.hid (Rune1.good (w := w) (hE.trans (if_pos (by omega))) (.inl (by omega)))
                   clear hE hlt q1 q2 q3
                   go_wp2
                   go_ret3
                   exact hfin.out)

set_option maxRecDepth 100000 in
set_option maxHeartbeats 1000000 in
theorem rune1_any (t : ByteArray) (w : World) (h : 0 < t.size) (hs : t.size ≤ 35184372088832) :
    Calls Tryd.prog 161 #[.string t] w (Rune1 t w) := by
  by_cases h1 : by_ t 0 < 128
  · have hd : decodeL t.data.toList = (by_ t 0, 1) := by rw [decode_by]; exact decodeN_ascii _ _ _ _ _ h1
    have hfin := Rune1.good (w := w) hd (.inr (by omega))
    rw [← by_eq t 0 h] at hfin h1
    refine (rune1_asc t w h hs (by omega)).mono ?_
    rintro e w' ⟨rfl, rfl⟩
    exact hfin
  · by_cases h2 : 194 ≤ by_ t 0 ∧ by_ t 0 < 224
    · exact rune1_lead2 t w h hs h2.1 h2.2
    · by_cases h3 : 224 ≤ by_ t 0 ∧ by_ t 0 < 240
      · exact rune1_lead3 t w h hs h3.1 h3.2
      · by_cases h4 : 240 ≤ by_ t 0 ∧ by_ t 0 < 245
        · exact rune1_lead4 t w h hs h4.1 h4.2
        · have hb := by_lt t 0
          have hd : decodeL t.data.toList = (65533, 1) := by rw [decode_by]; exact decodeN_bad _ _ _ _ _ (by omega)
          have hfin := Lib.hid (Rune1.bad (w := w) hd)
          have e0 := by_eq t 0 h
          by_cases h5 : by_ t 0 < 194
          · have h1' : 128 ≤ by_ t 0 := by omega
            clear h2 h3 h4 h1
            go_enter Tryd.func161, Tryd.ntmps161
            go_wp2
            go_ret3
            exact hfin.out
          · have h5' : 245 ≤ by_ t 0 := by omega
            clear h2 h3 h4 h1 h5
            go_enter Tryd.func161, Tryd.ntmps161
            go_wp2
            go_ret3
            exact hfin.out
end Go.Proofs.YtfjndjbpgcggkaaDoor
