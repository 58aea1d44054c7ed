/- slices.Grow of nil, slices.Clone, slices.Concat, at bytes. -/
import Derived.Test.YtfjndjbpgcggkaaDoorL
import Derived.Test.YtfjndjbpgcggkaaDoorProg
import Derived.Lib.AppendZerosOnto
import Derived.Lib.Hide
import Derived.LoopTactic
set_option linter.unusedVariables false
set_option linter.unusedSimpArgs false
namespace Go.Proofs.YtfjndjbpgcggkaaDoor
open Go.RowKit

theorem tBytes : ElemT Tryd.prog 26 5 1 1 := ElemT.mk' (z := .int .u8 0) Tryd.underlying26 (by kernel_rfl) rfl
theorem tByte2 : ElemT Tryd.prog 22 26 1 24 := ElemT.mk' (z := .slice none 0 0) Tryd.underlying22 (by kernel_rfl) rfl

set_option maxHeartbeats 400000 in
theorem clone_byte (A : Option Addr) (n c : Nat) (w : World) (F : Foot) (xs : List Int) (h : RS (kInt .u8) w F A n xs) (hn : n ≤ 1000000000000) :
    Calls Tryd.prog 55 #[.slice A n c] w fun e w' => ∃ v, e = .returned v ∧ Made (kInt .u8) 5 w w' (New w w') v xs := by
  have hnil := fun w => Lib.run_eql_slice_nil (P := Tryd.prog) w 26 5 A n c 0 0 Tryd.underlying26
  cases A with
  | none =>
    have h0 : n = 0 := by
      rcases Nat.eq_zero_or_pos n with h0 | h0
      · exact h0
      · obtain ⟨ad, h, _⟩ := h.lt h0
        cases h
    subst h0
    obtain rfl : xs = [] := List.eq_nil_of_length_eq_zero h.1
    go_enter Tryd.func55, Tryd.ntmps55
    go_wp2
    go_ret
    exact ⟨_, rfl, OwnS.nil, fun k hk => by simp [Value.ownBlock] at hk, Below.refl _ _⟩
  | some ad =>
    go_enter Tryd.func55, Tryd.ntmps55
    go_wp2_with (first
      | (at_builtin
         refine wpList_append_S rfl tBytes (.tmp 5) (.tmp 6) rfl (K := (kInt .u8)) (v := .slice (some ⟨w.heap.size, 0, none⟩) 0 0) (xs := []) (F := fun k => k = w.heap.size) rfl rfl (OwnS.lit (K := (kInt .u8)) (F := NoF) (xs := []) w Elems.nil (by simp) |>.mono (fun k hk => hk.resolve_left id)) (h.bound.alloc _) ?_ ?_ ?_ ?_))
    · intro k hk hk2
      have : w.heap.size = k := by simpa [Value.ownBlock] using hk
      have := hk2.2
      omega
    · simp; omega
    · simp; omega
    · intro v' W' hA
      go_wp2
      go_ret
      exact ⟨v', rfl, (Made.of_append hA).flat (flat_int _)⟩

theorem wpList_append_run {P : Program} {ops : Array Oper} {rest : List Oper} {o : Oper} {a : Act} {Q : Exit → Act → World → Prop} (hgd : o.guard = none) (s x : Operand) (t1 t2 : TypeId) (ho : o.op = .call { callee := .builtin .append, args := #[s, x], argTypes := #[t1, t2] }) {W W' : World} {u y v : Value}
    (hs : a.eval s = u) (hx : a.eval x = y) (hr : (Builtin.append_ #[t1, t2] o.type #[u, y]).run P W = .ok v W') (h : wpList P ops Q rest (a.put o.dst v) W') : wpList P ops Q (o :: rest) a W :=
  wpList_plain hgd fun _ hK => by
    unfold Oper.wp execOp
    simp only [ho, resolve, invoke, builtin, Sem.run_bind, Sem.run_pure, Result.andThen_ok, List.map_toArray, List.map_cons, List.map_nil, hs, hx, hr]
    exact hK _ _ h

/-- slices.Grow(nil, n): a row without elements. -/
theorem grow_nil (n : Nat) (w : World) (hn : n ≤ 1000000000000) :
    Calls Tryd.prog 107 #[.slice none 0 0, .int .i64 n] w fun e w' => ∃ v, e = .returned v ∧ Made (kInt .u8) 5 w w' (New w w') v [] := by
  obtain ⟨i, z, hi, hz, hs, hb, hzs⟩ := tBytes.info
  rcases Nat.eq_zero_or_pos n with h0 | h0
  · subst h0
    go_enter Tryd.func107, Tryd.ntmps107
    go_wp2
    go_ret
    exact ⟨_, rfl, OwnS.nil, fun k hk => by simp [Value.ownBlock] at hk, Below.refl _ _⟩
  · have hcells : z.cells.size = 1 := hzs
    have hrz := fun ty => Lib.run_append_grow_zeros (P := Tryd.prog) w 26 3 ty 5 i z .i64 .i64 Tryd.underlying26 Tryd.underlying3 hi hz none 0 0 [] (run_firstCells_none w.drew i.size 0 0 0) n (by omega) (by omega) (by omega) (by omega) (by rw [hb]; omega) (growslice_fits (by omega) (by rw [hb]; omega))
    have hG : n ≤ grownCap w (0 + n) 0 5 := by have := grownCap_ge w (0 + n) 0 5; omega
    have hG2 : grownCap w (0 + n) 0 5 ≤ 9223372036854775807 := by
      have := grownCap_le_maxLen w (0 + n) 0 5 (by unfold maxLen; omega)
      unfold maxLen at this
      omega
    have hcs : (#[] ++ Builtin.zeroCells z.cells n ++ Builtin.zeroCells z.cells (grownCap w (0 + n) 0 5 - (0 + n))).size = grownCap w (0 + n) 0 5 := by
      simp only [Array.size_append, size_zeroCells, hcells, List.size_toArray, List.length_nil]
      omega
    generalize (#[] ++ Builtin.zeroCells z.cells n ++ Builtin.zeroCells z.cells (grownCap w (0 + n) 0 5 - (0 + n))) = cs at hrz hcs
    generalize grownCap w (0 + n) 0 5 = G at hrz hG hG2 hcs
    simp only [Nat.zero_add] at hrz
    have hc1 := cut_hi tBytes .i64 none 0 0 0 (Nat.le_refl _)
    have hc2 := cut_hi tBytes .i64 (some ⟨w.heap.size, 0, none⟩) n G 0 (Nat.zero_le _)
    have hO : Made (kInt .u8) 5 w (w.drew.alloc (.cells cs 5)) (New w (w.drew.alloc (.cells cs 5))) (.slice (some ⟨w.heap.size, 0, none⟩) 0 G) [] := by
      refine ⟨⟨[], ⟨rfl, .inr ⟨w.heap.size, G, cs, rfl, Nat.zero_le _, heap_alloc_new w.drew _, Nat.zero_le _, by simpa [maxLen] using hG2, by rw [show (kInt .u8).size = 1 from rfl]; omega, by simp⟩⟩, Elems.nil, fun k hk => ?_⟩, fun k hk => ?_, ?_⟩
      · have : w.heap.size = k := by simpa [Value.ownBlock] using hk
        exact ⟨by omega, by simp; omega⟩
      · have : w.heap.size = k := by simpa [Value.ownBlock] using hk
        omega
      · exact ⟨rfl, rfl, rfl, by simp, fun k hk => Below.heap_alloc w.drew _ _ hk⟩
    have HO := Lib.hid hO
    clear hO hcs hi hz hs hb hzs hcells hG hG2
    go_enter Tryd.func107, Tryd.ntmps107
    go_wp2_with (first
      | (at_builtin
         refine wpList_append_run rfl (.tmp 20) (.tmp 21) 26 3 rfl rfl rfl (hrz _) ?_))
    go_wp2
    go_ret
    exact ⟨_, rfl, HO.out⟩
end Go.Proofs.YtfjndjbpgcggkaaDoor
