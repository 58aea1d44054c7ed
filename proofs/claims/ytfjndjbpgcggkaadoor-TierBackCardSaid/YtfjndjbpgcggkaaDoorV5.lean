/- record.Right, the program's and the document's; Fold of both. Printed by gen_v5.py (own work). -/
import Derived.Test.YtfjndjbpgcggkaaDoorV4
import Derived.Test.YtfjndjbpgcggkaaDoorT2
set_option linter.unusedVariables false
set_option linter.unusedSimpArgs false
namespace Go.Proofs.YtfjndjbpgcggkaaDoor
open Go.RowKit

def Record.Okay (r : Record) : Prop := 0 ≤ r.Offset ∧ r.Offset ≤ 1125899906842624 ∧ -1099511627776 ≤ r.Time ∧ r.Time ≤ 1099511627776 ∧ 1 ≤ r.Key.size ∧ r.Key.size ≤ 200 ∧ r.Value.size ≤ 2000 ∧ (r.Dead = true → r.Value.size = 0)
def RightPost (r : Record) (w : World) (e : Ending) (w' : World) : Prop := ∃ b : Bool, e = .returned (.bool b) ∧ (b = true ↔ r.Okay) ∧ Below w.heap.size w w'
theorem isEmpty_size (s : ByteArray) : s.toList.isEmpty = decide (s.size = 0) := by
  rw [ByteArray.toList_eq]
  cases h : s.data.toList with
  | nil =>
    have : s.size = 0 := by
      show s.data.size = 0
      rw [← Array.length_toList, h]
      rfl
    simp [this]
  | cons a l =>
    have : s.size = l.length + 1 := by
      show s.data.size = _
      rw [← Array.length_toList, h]
      rfl
    simp [this]

set_option maxHeartbeats 8000000 in
set_option maxRecDepth 100000 in
theorem Right_any (r : Record) (w : World) :
    Calls Tryd.prog 135 #[.agg #[.int .i64 r.Offset, .int .i64 r.Time, .string r.Key, .string r.Value, .bool r.Dead]] w (RightPost r w) := by
  have hb := Lib.hid ((Below.refl w.heap.size w).alloc (Nat.le_refl _) (.cells #[.int .i64 r.Offset, .int .i64 r.Time, .string r.Key, .string r.Value, .bool r.Dead] 79))
  by_cases h0 : 0 ≤ r.Offset
  rotate_left
  · go_enter Tryd.func135, Tryd.ntmps135
    go_wp2
    go_ret
    exact ⟨false, rfl, ⟨(fun h => by cases h), (fun h => absurd (h.1) (by omega))⟩, hb.out⟩
  by_cases h1 : r.Offset ≤ 1125899906842624
  rotate_left
  · go_enter Tryd.func135, Tryd.ntmps135
    go_wp2
    go_ret
    exact ⟨false, rfl, ⟨(fun h => by cases h), (fun h => absurd (h.2.1) (by omega))⟩, hb.out⟩
  by_cases h2 : -1099511627776 ≤ r.Time
  rotate_left
  · go_enter Tryd.func135, Tryd.ntmps135
    go_wp2
    go_ret
    exact ⟨false, rfl, ⟨(fun h => by cases h), (fun h => absurd (h.2.2.1) (by omega))⟩, hb.out⟩
  by_cases h3 : r.Time ≤ 1099511627776
  rotate_left
  · go_enter Tryd.func135, Tryd.ntmps135
    go_wp2
    go_ret
    exact ⟨false, rfl, ⟨(fun h => by cases h), (fun h => absurd (h.2.2.2.1) (by omega))⟩, hb.out⟩
  by_cases h4 : 1 ≤ r.Key.size
  rotate_left
  · have hk : r.Key.toList.isEmpty = true := by rw [isEmpty_size, decide_eq_true_eq]; omega
    go_enter Tryd.func135, Tryd.ntmps135
    go_wp2
    go_ret
    exact ⟨false, rfl, ⟨(fun h => by cases h), (fun h => absurd (h.2.2.2.2.1) (by omega))⟩, hb.out⟩
  have hk : r.Key.toList.isEmpty = false := by rw [isEmpty_size, decide_eq_false_iff_not]; omega
  by_cases h5 : r.Key.size ≤ 200
  rotate_left
  · go_enter Tryd.func135, Tryd.ntmps135
    go_wp2
    go_ret
    exact ⟨false, rfl, ⟨(fun h => by cases h), (fun h => absurd (h.2.2.2.2.2.1) (by omega))⟩, hb.out⟩
  by_cases h6 : r.Value.size ≤ 2000
  rotate_left
  · go_enter Tryd.func135, Tryd.ntmps135
    go_wp2
    go_ret
    exact ⟨false, rfl, ⟨(fun h => by cases h), (fun h => absurd (h.2.2.2.2.2.2.1) (by omega))⟩, hb.out⟩
  obtain ⟨off, tm, key, val, dead⟩ := r
  dsimp only at *
  cases dead with
  | false =>
    go_enter Tryd.func135, Tryd.ntmps135
    go_wp2
    go_ret
    exact ⟨true, rfl, ⟨(fun _ => ⟨h0, h1, h2, h3, h4, h5, h6, (fun h => by cases h)⟩), (fun _ => rfl)⟩, hb.out⟩
  | true =>
    by_cases h7 : val.size = 0
    · have hv : val.toList.isEmpty = true := by rw [isEmpty_size, decide_eq_true_eq]; exact h7
      go_enter Tryd.func135, Tryd.ntmps135
      go_wp2
      go_ret
      exact ⟨true, rfl, ⟨(fun _ => ⟨h0, h1, h2, h3, h4, h5, h6, (fun _ => h7)⟩), (fun _ => rfl)⟩, hb.out⟩
    · have hv : val.toList.isEmpty = false := by rw [isEmpty_size, decide_eq_false_iff_not]; exact h7
      go_enter Tryd.func135, Tryd.ntmps135
      go_wp2
      go_ret
      exact ⟨false, rfl, ⟨(fun h => by cases h), (fun h => absurd (h.2.2.2.2.2.2.2 rfl) h7)⟩, hb.out⟩

set_option maxHeartbeats 8000000 in
set_option maxRecDepth 100000 in
theorem rRight_any (r : Record) (w : World) :
    Calls Tryd.prog 42 #[.agg #[.int .i64 r.Offset, .int .i64 r.Time, .string r.Key, .string r.Value, .bool r.Dead]] w (RightPost r w) := by
  have hb := Lib.hid ((Below.refl w.heap.size w).alloc (Nat.le_refl _) (.cells #[.int .i64 r.Offset, .int .i64 r.Time, .string r.Key, .string r.Value, .bool r.Dead] 79))
  by_cases h0 : 0 ≤ r.Offset
  rotate_left
  · go_enter Tryd.func42, Tryd.ntmps42
    go_wp2
    go_ret
    exact ⟨false, rfl, ⟨(fun h => by cases h), (fun h => absurd (h.1) (by omega))⟩, hb.out⟩
  by_cases h1 : r.Offset ≤ 1125899906842624
  rotate_left
  · go_enter Tryd.func42, Tryd.ntmps42
    go_wp2
    go_ret
    exact ⟨false, rfl, ⟨(fun h => by cases h), (fun h => absurd (h.2.1) (by omega))⟩, hb.out⟩
  by_cases h2 : -1099511627776 ≤ r.Time
  rotate_left
  · go_enter Tryd.func42, Tryd.ntmps42
    go_wp2
    go_ret
    exact ⟨false, rfl, ⟨(fun h => by cases h), (fun h => absurd (h.2.2.1) (by omega))⟩, hb.out⟩
  by_cases h3 : r.Time ≤ 1099511627776
  rotate_left
  · go_enter Tryd.func42, Tryd.ntmps42
    go_wp2
    go_ret
    exact ⟨false, rfl, ⟨(fun h => by cases h), (fun h => absurd (h.2.2.2.1) (by omega))⟩, hb.out⟩
  by_cases h4 : 1 ≤ r.Key.size
  rotate_left
  · have hk : r.Key.toList.isEmpty = true := by rw [isEmpty_size, decide_eq_true_eq]; omega
    go_enter Tryd.func42, Tryd.ntmps42
    go_wp2
    go_ret
    exact ⟨false, rfl, ⟨(fun h => by cases h), (fun h => absurd (h.2.2.2.2.1) (by omega))⟩, hb.out⟩
  have hk : r.Key.toList.isEmpty = false := by rw [isEmpty_size, decide_eq_false_iff_not]; omega
  by_cases h5 : r.Key.size ≤ 200
  rotate_left
  · go_enter Tryd.func42, Tryd.ntmps42
    go_wp2
    go_ret
    exact ⟨false, rfl, ⟨(fun h => by cases h), (fun h => absurd (h.2.2.2.2.2.1) (by omega))⟩, hb.out⟩
  by_cases h6 : r.Value.size ≤ 2000
  rotate_left
  · go_enter Tryd.func42, Tryd.ntmps42
    go_wp2
    go_ret
    exact ⟨false, rfl, ⟨(fun h => by cases h), (fun h => absurd (h.2.2.2.2.2.2.1) (by omega))⟩, hb.out⟩
  obtain ⟨off, tm, key, val, dead⟩ := r
  dsimp only at *
  cases dead with
  | false =>
    go_enter Tryd.func42, Tryd.ntmps42
    go_wp2
    go_ret
    exact ⟨true, rfl, ⟨(fun _ => ⟨h0, h1, h2, h3, h4, h5, h6, (fun h => by cases h)⟩), (fun _ => rfl)⟩, hb.out⟩
  | true =>
    by_cases h7 : val.size = 0
    · have hv : val.toList.isEmpty = true := by rw [isEmpty_size, decide_eq_true_eq]; exact h7
      go_enter Tryd.func42, Tryd.ntmps42
      go_wp2
      go_ret
      exact ⟨true, rfl, ⟨(fun _ => ⟨h0, h1, h2, h3, h4, h5, h6, (fun _ => h7)⟩), (fun _ => rfl)⟩, hb.out⟩
    · have hv : val.toList.isEmpty = false := by rw [isEmpty_size, decide_eq_false_iff_not]; exact h7
      go_enter Tryd.func42, Tryd.ntmps42
      go_wp2
      go_ret
      exact ⟨false, rfl, ⟨(fun h => by cases h), (fun h => absurd (h.2.2.2.2.2.2.2 rfl) h7)⟩, hb.out⟩

def vfold (n : Int) : Nat := if n < 0 then (-n).toNat * 2 - 1 else n.toNat * 2
theorem u64_not (z : Int) (h : 0 ≤ z ∧ z < 18446744073709551616) : bits .xor .u64 IntKind.u64.max z = 18446744073709551615 - z := by
  have e1 : BitVec.ofInt 64 IntKind.u64.max = BitVec.allOnes 64 := by decide +kernel
  have key : (BitVec.ofInt 64 IntKind.u64.max ^^^ BitVec.ofInt 64 z).toNat = 2 ^ 64 - 1 - (z % ((2 ^ 64 : Nat) : Int)).toNat := by
    rw [e1, BitVec.allOnes_xor, BitVec.toNat_not, BitVec.toNat_ofInt]
  show IntKind.u64.wrap ((BitVec.ofInt 64 IntKind.u64.max ^^^ BitVec.ofInt 64 z).toNat : Nat) = _
  rw [key]
  show ((2 ^ 64 - 1 - (z % ((2 ^ 64 : Nat) : Int)).toNat : Nat) : Int) % 18446744073709551616 = _
  omega
theorem fold_neg (n : Int) (h1 : -1099511627776 ≤ n) (hn : n < 0) : bits .xor .u64 IntKind.u64.max (IntKind.u64.wrap (IntKind.u64.wrap n * 2)) = -(n + 1) * 2 + 1 := by
  have hw : ∀ z : Int, IntKind.u64.wrap z = z % 18446744073709551616 := fun z => rfl
  rw [u64_not _ (by rw [hw]; omega), hw, hw]
  omega
set_option maxHeartbeats 2000000 in
theorem rFold_any (n : Int) (w : World) (h : -1099511627776 ≤ n ∧ n ≤ 1099511627776) :
    Calls Tryd.prog 147 #[.int .i64 n] w fun e w' => e = .returned (.int .u64 (vfold n)) ∧ w' = w := by
  obtain ⟨h1, h2⟩ := h
  by_cases hn : n < 0
  · have hv : ((vfold n : Nat) : Int) = -(n + 1) * 2 + 1 := by unfold vfold; rw [if_pos hn]; omega
    go_enter Tryd.func147, Tryd.ntmps147
    go_wp2
    go_ret
    exact ⟨by rw [hv]; rfl, rfl⟩
  · have hv : ((vfold n : Nat) : Int) = n * 2 := by unfold vfold; rw [if_neg hn]; omega
    go_enter Tryd.func147, Tryd.ntmps147
    go_wp2
    go_ret
    exact ⟨rfl, rfl⟩
set_option maxHeartbeats 2000000 in
theorem vFold_any (n : Int) (w : World) (h : -1099511627776 ≤ n ∧ n ≤ 1099511627776) :
    Calls Tryd.prog 169 #[.int .i64 n] w fun e w' => e = .returned (.int .u64 (vfold n)) ∧ w' = w := by
  obtain ⟨h1, h2⟩ := h
  by_cases hn : n < 0
  · have hv : ((vfold n : Nat) : Int) = -(n + 1) * 2 + 1 := by unfold vfold; rw [if_pos hn]; omega
    go_enter Tryd.func169, Tryd.ntmps169
    go_wp2
    go_ret
    exact ⟨by rw [← fold_neg n h1 hn]; rfl, rfl⟩
  · have hv : ((vfold n : Nat) : Int) = n * 2 := by unfold vfold; rw [if_neg hn]; omega
    go_enter Tryd.func169, Tryd.ntmps169
    go_wp2
    go_ret
    exact ⟨rfl, rfl⟩
end Go.Proofs.YtfjndjbpgcggkaaDoor
