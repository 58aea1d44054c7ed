/- Contracts of slices.Clone at three types, and of raftlog.copied. -/
import Derived.Test.YtikpbhhnllchmaaL
import Derived.Test.YtikpbhhnllchmaaT
import Derived.Test.YtikpbhhnllchmaaProg
import Derived.Deep.QuietTactic
import Derived.BigQuiet
import Derived.Lib.Hide
import Derived.Deep.RegionHeld3
import Derived.Deep.DrawnRows
import Derived.LoopTactic
set_option linter.unusedVariables false
set_option linter.unusedSimpArgs false
namespace Go.Proofs.Ytikpbhhnllchmaa
open Go.RowKit

theorem tEntry : ElemT Try.prog 31 43 14 136 := ElemT.mk' (z := .agg #[.int .i64 0, .int .i64 0, .int .i64 0, .int .i64 0, .slice none 0 0, .string ⟨#[]⟩, .int .i64 0, .int .i64 0, .int .i64 0, .int .u32 0, .int .i64 0, .int .i64 0, .int .i64 0, .int .i64 0]) Try.underlying31 (by kernel_rfl) rfl
theorem tRecord : ElemT Try.prog 36 109 5 56 := ElemT.mk' (z := .agg #[.int .i64 0, .int .i64 0, .string ⟨#[]⟩, .string ⟨#[]⟩, .bool false]) Try.underlying36 (by kernel_rfl) rfl
theorem tByte : ElemT Try.prog 32 5 1 1 := ElemT.mk' (z := .int .u8 0) Try.underlying32 (by kernel_rfl) rfl


set_option maxHeartbeats 400000 in
theorem clone_entry (A : Option Addr) (n c : Nat) (w : World) (F : Foot) (xs : List Entry) (h : RS kEntry w F A n xs) (hn : n ≤ 1000000000000) :
    Calls Try.prog 60 #[.slice A n c] w fun e w' => ∃ v, e = .returned v ∧ Made kEntry 43 w w' (Grow F w w') v xs := by
  have hnil := fun w => Lib.run_eql_slice_nil (P := Try.prog) w 31 43 A n c 0 0 Try.underlying31
  cases A with
  | none =>
    have h0 : n = 0 := by
      rcases Nat.eq_zero_or_pos n with h0 | h0
      · exact h0
      · obtain ⟨ad, h, _⟩ := h.lt h0
        cases h
    subst h0
    obtain rfl : xs = [] := List.eq_nil_of_length_eq_zero h.1
    go_enter Try.func60, Try.ntmps60
    go_wp2
    go_ret
    exact ⟨_, rfl, OwnS.nil, fun k hk => by simp [Value.ownBlock] at hk, Below.refl _ _⟩
  | some ad =>
    go_enter Try.func60, Try.ntmps60
    go_wp2_with (first
      | (at_builtin
         refine wpList_append_S rfl tEntry (.tmp 5) (.tmp 6) rfl (K := kEntry) (v := .slice (some ⟨w.heap.size, 0, none⟩) 0 0) (xs := []) (F := fun k => k = w.heap.size) rfl rfl (OwnS.lit (K := kEntry) (F := NoF) (xs := []) w Elems.nil (by simp) |>.mono (fun k hk => hk.resolve_left id)) (h.bound.alloc _) ?_ ?_ ?_ ?_))
    · intro k hk hk2
      have : w.heap.size = k := by simpa [Value.ownBlock] using hk
      have := hk2.2
      omega
    · simp; omega
    · simp; omega
    · intro v' W' hA
      go_wp2
      go_ret
      exact ⟨v', rfl, Made.of_append hA⟩

set_option maxHeartbeats 400000 in
theorem clone_record (A : Option Addr) (n c : Nat) (w : World) (F : Foot) (xs : List Record) (h : RS kRecord w F A n xs) (hn : n ≤ 1000000000000) :
    Calls Try.prog 61 #[.slice A n c] w fun e w' => ∃ v, e = .returned v ∧ Made kRecord 109 w w' (Grow F w w') v xs := by
  have hnil := fun w => Lib.run_eql_slice_nil (P := Try.prog) w 36 109 A n c 0 0 Try.underlying36
  cases A with
  | none =>
    have h0 : n = 0 := by
      rcases Nat.eq_zero_or_pos n with h0 | h0
      · exact h0
      · obtain ⟨ad, h, _⟩ := h.lt h0
        cases h
    subst h0
    obtain rfl : xs = [] := List.eq_nil_of_length_eq_zero h.1
    go_enter Try.func61, Try.ntmps61
    go_wp2
    go_ret
    exact ⟨_, rfl, OwnS.nil, fun k hk => by simp [Value.ownBlock] at hk, Below.refl _ _⟩
  | some ad =>
    go_enter Try.func61, Try.ntmps61
    go_wp2_with (first
      | (at_builtin
         refine wpList_append_S rfl tRecord (.tmp 5) (.tmp 6) rfl (K := kRecord) (v := .slice (some ⟨w.heap.size, 0, none⟩) 0 0) (xs := []) (F := fun k => k = w.heap.size) rfl rfl (OwnS.lit (K := kRecord) (F := NoF) (xs := []) w Elems.nil (by simp) |>.mono (fun k hk => hk.resolve_left id)) (h.bound.alloc _) ?_ ?_ ?_ ?_))
    · intro k hk hk2
      have : w.heap.size = k := by simpa [Value.ownBlock] using hk
      have := hk2.2
      omega
    · simp; omega
    · simp; omega
    · intro v' W' hA
      go_wp2
      go_ret
      exact ⟨v', rfl, Made.of_append hA⟩

set_option maxHeartbeats 400000 in
theorem clone_byte (A : Option Addr) (n c : Nat) (w : World) (F : Foot) (xs : List Int) (h : RS (kInt .u8) w F A n xs) (hn : n ≤ 1000000000000) :
    Calls Try.prog 43 #[.slice A n c] w fun e w' => ∃ v, e = .returned v ∧ Made (kInt .u8) 5 w w' (Grow F w w') v xs := by
  have hnil := fun w => Lib.run_eql_slice_nil (P := Try.prog) w 32 5 A n c 0 0 Try.underlying32
  cases A with
  | none =>
    have h0 : n = 0 := by
      rcases Nat.eq_zero_or_pos n with h0 | h0
      · exact h0
      · obtain ⟨ad, h, _⟩ := h.lt h0
        cases h
    subst h0
    obtain rfl : xs = [] := List.eq_nil_of_length_eq_zero h.1
    go_enter Try.func43, Try.ntmps43
    go_wp2
    go_ret
    exact ⟨_, rfl, OwnS.nil, fun k hk => by simp [Value.ownBlock] at hk, Below.refl _ _⟩
  | some ad =>
    go_enter Try.func43, Try.ntmps43
    go_wp2_with (first
      | (at_builtin
         refine wpList_append_S rfl tByte (.tmp 5) (.tmp 6) rfl (K := (kInt .u8)) (v := .slice (some ⟨w.heap.size, 0, none⟩) 0 0) (xs := []) (F := fun k => k = w.heap.size) rfl rfl (OwnS.lit (K := (kInt .u8)) (F := NoF) (xs := []) w Elems.nil (by simp) |>.mono (fun k hk => hk.resolve_left id)) (h.bound.alloc _) ?_ ?_ ?_ ?_))
    · intro k hk hk2
      have : w.heap.size = k := by simpa [Value.ownBlock] using hk
      have := hk2.2
      omega
    · simp; omega
    · simp; omega
    · intro v' W' hA
      go_wp2
      go_ret
      exact ⟨v', rfl, Made.of_append hA⟩

set_option maxHeartbeats 1000000 in
theorem copied_any (A : Option Addr) (n c : Nat) (w : World) (F : Foot) (xs : List Entry) (h : RS kEntry w F A n xs) (hn : n ≤ 1000000000000) (hr : ∀ x ∈ xs, x.Cmd.Records.length ≤ 1000000000000) :
    Calls Try.prog 41 #[.slice A n c] w fun e w' => ∃ v, e = .returned v ∧ Made kEntry 43 w w' (New w w') v xs := by
  obtain rfl := h.length
  go_enter Try.func41, Try.ntmps41
  go_wp2_with fail
  go_at_call 60
  refine (clone_entry _ _ _ _ F xs h hn).mono ?_
  rintro e w1 ⟨v, rfl, hM⟩
  obtain ⟨A1, c1, rfl, hc1, hc2⟩ := hM.own.slice
  go_wp2
  go_loopw [9] (fun q wr => ∃ i : Nat, q = .int .i64 i ∧ i ≤ xs.length ∧ OwnSp kEntry 43 wr (fun k => w.heap.size ≤ k) (fun k => F k ∨ w.heap.size ≤ k) (.slice A1 xs.length c1) xs i ∧ Below w.heap.size w wr) (fun q _ => xs.length - (intOf q).toNat)
  case atStart =>
    exact ⟨0, rfl, by omega, OwnSp.start (hM.own.mono fun k hk => hk.imp id And.left) (fun k hk => hM.new k hk), hM.below⟩
  case round =>
    obtain ⟨i, rfl, hi, hS, hB⟩ := hrel
    by_cases hlt : i < xs.length
    · obtain ⟨x, hx⟩ : ∃ x, xs[i]? = some x := ⟨_, List.getElem?_eq_getElem (by omega)⟩
      obtain ⟨g, rfl⟩ := hS.addr (by omega)
      have hgw := hS.row g rfl
      obtain ⟨cc, hrep, hcell, hg, hstep⟩ := hS.step hx
      obtain ⟨A4, c4, rfl, l4, m4, r4⟩ := hrep
      have hc4 : wr.cell? ⟨g, i * 14 + 4, none⟩ = some (.slice A4 x.Cmd.Records.length c4) := (hcell 4 _ rfl).1
      have hf4 : wr.frozen? ⟨g, i * 14 + 4, none⟩ = false := (hcell 4 _ rfl).2
      have hxr := hr x (List.mem_of_getElem? hx)
      go_wp2_with fail
      go_at_call 61
      refine (clone_record _ _ _ _ _ _ r4 hxr).mono ?_
      rintro e w2 ⟨u, rfl, hU0⟩
      have hU := hU0.flat flat_Record
      obtain ⟨A5, c5, rfl, l5, m5, r5⟩ := hU.own.reads
      have hc5 : w2.cell? ⟨g, i * 14 + 4, none⟩ = some (.slice A4 x.Cmd.Records.length c4) := (hU.below.cell hg).trans hc4
      have hf5 : w2.frozen? ⟨g, i * 14 + 4, none⟩ = false := (hU.below.frozen hg).trans hf4
      go_wp2
      go_roundw
      case rel =>
        refine ⟨i + 1, by go_num, by omega, hstep w2 (hU.below.block g hg) hU.below.size (fun k _ hk => hU.below.block k hk) 4 _ (by decide) (fun W2 hW2 => ⟨A5, c5, rfl, l5, m5, ?_⟩), ?_⟩
        · refine (r5.keep fun k hk _ => hW2 k ?_).mono fun k hk => ⟨?_, ?_⟩
          · have := hk.1; omega
          · have := hk.1; have := hB.size; omega
          · have := hk.1; omega
        · exact (hB.trans (hU.below.mono hB.size)).setCell (p := ⟨g, _, none⟩) hgw _
      case measure => simp [intOf]; omega
    · obtain rfl : i = xs.length := by omega
      go_wp2
      go_ret
      refine ⟨_, rfl, ?_, fun k hk => hS.row k hk, hB⟩
      exact hS.done.bound.mono fun k hk => hk
end Go.Proofs.Ytikpbhhnllchmaa
