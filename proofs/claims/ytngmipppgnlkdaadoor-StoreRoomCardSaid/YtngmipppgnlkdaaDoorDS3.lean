/- slices.Clone at bytes; what store.found tells. -/
import Derived.Test.YtngmipppgnlkdaaDoorDS2
import Derived.Test.YtngmipppgnlkdaaDoorDN4
set_option linter.unusedVariables false
set_option linter.unusedSimpArgs false
namespace Go.Proofs.YtngmipppgnlkdaaDoor
open Go.RowKit

theorem tBytes : ElemT Tryd.prog 30 5 1 1 := ElemT.mk' (z := .int .u8 0) Tryd.underlying30 (by kernel_rfl) rfl
theorem tInts : ElemT Tryd.prog 22 3 1 8 := ElemT.mk' (z := .int .i64 0) Tryd.underlying22 (by kernel_rfl) rfl

set_option maxHeartbeats 400000 in
theorem clone_byte (A : Option Addr) (n c : Nat) (w : World) (F : Foot) (xs : List Int) (h : RS (kInt .u8) w F A n xs) (hn : n ≤ 1000000000000) :
    Calls Tryd.prog 51 #[.slice A n c] w fun e w' => ∃ v, e = .returned v ∧ Made (kInt .u8) 5 w w' (New w w') v xs := by
  have hnil := fun w => Lib.run_eql_slice_nil (P := Tryd.prog) w 30 5 A n c 0 0 Tryd.underlying30
  cases A with
  | none =>
    have h0 : n = 0 := by
      rcases Nat.eq_zero_or_pos n with h0 | h0
      · exact h0
      · obtain ⟨ad, h, _⟩ := h.lt h0
        cases h
    subst h0
    obtain rfl : xs = [] := List.eq_nil_of_length_eq_zero h.1
    go_enter Tryd.func51, Tryd.ntmps51
    go_wp2
    go_ret
    exact ⟨_, rfl, OwnS.nil, fun k hk => by simp [Value.ownBlock] at hk, Below.refl _ _⟩
  | some ad =>
    go_enter Tryd.func51, Tryd.ntmps51
    go_wp2_with (first
      | (at_builtin
         refine wpList_append_S rfl tBytes (.tmp 5) (.tmp 6) rfl (K := (kInt .u8)) (v := .slice (some ⟨w.heap.size, 0, none⟩) 0 0) (xs := []) (F := fun k => k = w.heap.size) rfl rfl (OwnS.lit (K := (kInt .u8)) (F := NoF) (xs := []) w Elems.nil (by simp) |>.mono (fun k hk => hk.resolve_left id)) (h.bound.alloc _) ?_ ?_ ?_ ?_))
    · intro k hk hk2
      have : w.heap.size = k := by simpa [Value.ownBlock] using hk
      have := hk2.2
      omega
    · simp; omega
    · simp; omega
    · intro v' W' hA
      go_wp2
      go_ret
      exact ⟨v', rfl, (Made.of_append hA).flat (flat_int _)⟩

/-- What found tells. -/
def found (s : ByteArray) (c : Objs) : List Int × Int := if validName s = false then ([], 6) else match look s c with | some b => (b, 0) | none => ([], 8)
def FoundPost (w : World) (b : List Int) (e : Int) (en : Ending) (w' : World) : Prop := ∃ v, en = .returned (.tuple #[v, .int .i64 e]) ∧ RV w' (New w w') v b ∧ Below w.heap.size w w'

set_option maxHeartbeats 1000000 in
theorem found_any (sb : Nat) (s : ByteArray) (w : World) (F : Foot) (room : Int) (bad : List Int) (c : Objs) (h : StoreAt w F sb room bad c) (hs : s.size ≤ 35184372088832) (hT : TabsBelow w.heap.size w) :
    Calls Tryd.prog 31 #[.pointer (some ⟨sb, 0, none⟩), .string s] w (FoundPost w (found s c).1 (found s c).2) := by
  obtain ⟨mb, clock, m, fv, h⟩ := h
  have HV := Lib.hid (fun w1 => Valid_any s w1 hs)
  cases hv : validName s with
  | false =>
    have hf : found s c = ([], 6) := by unfold found; rw [if_pos hv]
    rw [hf]
    rw [hv] at HV
    clear hv hf
    have HT := Lib.hid hT
    clear hT h
    go_enter Tryd.func31, Tryd.ntmps31
    go_wp2_with fail
    refine (HV.out _ HT.out).mono ?_
    rintro e w1 ⟨rfl, h1⟩
    go_wp2
    go_ret2
    exact ⟨_, rfl, ⟨none, 0, rfl, by simp, by omega, RS.nil⟩, h1⟩
  | true =>
    rw [hv] at HV
    have hlk := EntsR.look s 0 h.e
    have hf : found s c = match look s c with | some b => (b, 0) | none => ([], 8) := by unfold found; rw [if_neg (by rw [hv]; decide)]
    rw [hf]
    clear hv hf
    have HT := Lib.hid hT
    clear hT
    cases hm : mfind s m 0 with
    | none =>
      rw [hm] at hlk
      have hl : look s c = none := by
        cases h : look s c with
        | none => rfl
        | some b => rw [h] at hlk; exact hlk.elim
      rw [hl]
      clear hlk hl
      have H := Lib.hid h
      have hr : ∀ w1, w1.heap[mb]? = w.heap[mb]? → (Instr.lookup 64 (.map (some mb)) (.string s) true).run Tryd.prog w1 = .ok (.tuple #[.slice none 0 0, .bool false]) w1 := fun w1 h1 => by
        rw [run_look w1 mb clock m s true (h1.trans H.out.map), hm]; rfl
      have c0 : w.cell? ⟨sb, 0, none⟩ = some (.map (some mb)) := cell_of_row w sb 0 _ _ _ h.cells
      have hslt := h.slt
      have hmlt := h.mlt
      clear h hm
      have HR := Lib.hid hr
      clear hr
      go_enter Tryd.func31, Tryd.ntmps31
      go_wp2_with fail
      refine (HV.out _ HT.out).mono ?_
      rintro e w1 ⟨rfl, h1⟩
      have c1 : w1.cell? ⟨sb, 0, none⟩ = some (.map (some mb)) := (h1.cell (p := ⟨sb, 0, none⟩) hslt).trans c0
      have hr1 := HR.out w1 (h1.block mb hmlt)
      go_wp2
      go_ret2
      exact ⟨_, rfl, ⟨none, 0, rfl, by simp, by omega, RS.nil⟩, h1⟩
    | some x =>
      rw [hm] at hlk
      obtain ⟨b, hl⟩ : ∃ b, look s c = some b := by
        cases h : look s c with
        | none => rw [h] at hlk; exact hlk.elim
        | some b => exact ⟨b, rfl⟩
      rw [hl] at hlk ⊢
      obtain ⟨A, cp, hxv, hc1, hc2, hrd⟩ := hlk
      have hlen := h.len _ (look_mem s b c hl)
      clear hl
      have H := Lib.hid h
      have hr : ∀ w1, w1.heap[mb]? = w.heap[mb]? → (Instr.lookup 64 (.map (some mb)) (.string s) true).run Tryd.prog w1 = .ok (.tuple #[.slice A b.length cp, .bool true]) w1 := fun w1 h1 => by
        rw [run_look w1 mb clock m s true (h1.trans H.out.map), hm, ← hxv]; rfl
      have c0 : w.cell? ⟨sb, 0, none⟩ = some (.map (some mb)) := cell_of_row w sb 0 _ _ _ h.cells
      have hslt := h.slt
      have hmlt := h.mlt
      clear h hm hxv
      have HR := Lib.hid hr
      clear hr
      go_enter Tryd.func31, Tryd.ntmps31
      go_wp2_with fail
      refine (HV.out _ HT.out).mono ?_
      rintro e w1 ⟨rfl, h1⟩
      have c1 : w1.cell? ⟨sb, 0, none⟩ = some (.map (some mb)) := (h1.cell (p := ⟨sb, 0, none⟩) hslt).trans c0
      have hr1 := HR.out w1 (h1.block mb hmlt)
      go_wp2_with fail
      refine (clone_byte A b.length cp w1 _ b (hrd.below h1) hlen).mono ?_
      rintro e w2 ⟨v, rfl, hM⟩
      go_wp2
      go_ret2
      refine ⟨v, rfl, (RV.of_own hM.own).mono fun k hk => ⟨Nat.le_trans h1.size hk.1, hk.2⟩, h1.trans (hM.below.mono h1.size)⟩
end Go.Proofs.YtngmipppgnlkdaaDoor
