/- slices.Clone at bytes; what store.found tells. -/
import Derived.Test.YtfjndjbpgcggkaaDoorTS2
import Derived.Test.YtfjndjbpgcggkaaDoorDN4
set_option linter.unusedVariables false
set_option linter.unusedSimpArgs false
namespace Go.Proofs.YtfjndjbpgcggkaaDoor
open Go.RowKit

set_option maxHeartbeats 400000 in
/-- What found tells. -/
def found (s : ByteArray) (c : SObjs) : List Int × Int := if validName s = false then ([], 6) else match look s c with | some b => (b, 0) | none => ([], 8)
def FoundPost (w : World) (b : List Int) (e : Int) (en : Ending) (w' : World) : Prop := ∃ v, en = .returned (.tuple #[v, .int .i64 e]) ∧ RV w' (New w w') v b ∧ Below w.heap.size w w'

set_option maxHeartbeats 1000000 in
theorem found_any (sb : Nat) (s : ByteArray) (w : World) (F : Foot) (room : Int) (bad : List Int) (c : SObjs) (h : StoreAt w F sb room bad c) (hs : s.size ≤ 35184372088832) (hT : TabsBelow w.heap.size w) :
    Calls Tryd.prog 141 #[.pointer (some ⟨sb, 0, none⟩), .string s] w (FoundPost w (found s c).1 (found s c).2) := by
  obtain ⟨mb, clock, m, fv, h⟩ := h
  have HV := Lib.hid (fun w1 => Valid_any s w1 hs)
  cases hv : validName s with
  | false =>
    have hf : found s c = ([], 6) := by unfold found; rw [if_pos hv]
    rw [hf]
    rw [hv] at HV
    clear hv hf
    have HT := Lib.hid hT
    clear hT h
    go_enter Tryd.func141, Tryd.ntmps141
    go_wp2_with fail
    refine (HV.out _ HT.out).mono ?_
    rintro e w1 ⟨rfl, h1⟩
    go_wp2
    go_ret2
    exact ⟨_, rfl, ⟨none, 0, rfl, by simp, by omega, RS.nil⟩, h1⟩
  | true =>
    rw [hv] at HV
    have hlk := EntsR.look s 0 h.e
    have hf : found s c = match look s c with | some b => (b, 0) | none => ([], 8) := by unfold found; rw [if_neg (by rw [hv]; decide)]
    rw [hf]
    clear hv hf
    have HT := Lib.hid hT
    clear hT
    cases hm : mfind s m 0 with
    | none =>
      rw [hm] at hlk
      have hl : look s c = none := by
        cases h : look s c with
        | none => rfl
        | some b => rw [h] at hlk; exact hlk.elim
      rw [hl]
      clear hlk hl
      have H := Lib.hid h
      have hr : ∀ w1, w1.heap[mb]? = w.heap[mb]? → (Instr.lookup 152 (.map (some mb)) (.string s) true).run Tryd.prog w1 = .ok (.tuple #[.slice none 0 0, .bool false]) w1 := fun w1 h1 => by
        rw [run_look mStore w1 mb clock m s true (h1.trans H.out.map), hm]; rfl
      have c0 : w.cell? ⟨sb, 0, none⟩ = some (.map (some mb)) := cell_of_row w sb 0 _ _ _ h.cells
      have hslt := h.slt
      have hmlt := h.mlt
      clear h hm
      have HR := Lib.hid hr
      clear hr
      go_enter Tryd.func141, Tryd.ntmps141
      go_wp2_with fail
      refine (HV.out _ HT.out).mono ?_
      rintro e w1 ⟨rfl, h1⟩
      have c1 : w1.cell? ⟨sb, 0, none⟩ = some (.map (some mb)) := (h1.cell (p := ⟨sb, 0, none⟩) hslt).trans c0
      have hr1 := HR.out w1 (h1.block mb hmlt)
      go_wp2
      go_ret2
      exact ⟨_, rfl, ⟨none, 0, rfl, by simp, by omega, RS.nil⟩, h1⟩
    | some x =>
      rw [hm] at hlk
      obtain ⟨b, hl⟩ : ∃ b, look s c = some b := by
        cases h : look s c with
        | none => rw [h] at hlk; exact hlk.elim
        | some b => exact ⟨b, rfl⟩
      rw [hl] at hlk ⊢
      obtain ⟨A, cp, hxv, hc1, hc2, hrd⟩ := hlk
      have hlen := h.len _ (look_mem s b c hl)
      clear hl
      have H := Lib.hid h
      have hr : ∀ w1, w1.heap[mb]? = w.heap[mb]? → (Instr.lookup 152 (.map (some mb)) (.string s) true).run Tryd.prog w1 = .ok (.tuple #[.slice A b.length cp, .bool true]) w1 := fun w1 h1 => by
        rw [run_look mStore w1 mb clock m s true (h1.trans H.out.map), hm, ← hxv]; rfl
      have c0 : w.cell? ⟨sb, 0, none⟩ = some (.map (some mb)) := cell_of_row w sb 0 _ _ _ h.cells
      have hslt := h.slt
      have hmlt := h.mlt
      clear h hm hxv
      have HR := Lib.hid hr
      clear hr
      go_enter Tryd.func141, Tryd.ntmps141
      go_wp2_with fail
      refine (HV.out _ HT.out).mono ?_
      rintro e w1 ⟨rfl, h1⟩
      have c1 : w1.cell? ⟨sb, 0, none⟩ = some (.map (some mb)) := (h1.cell (p := ⟨sb, 0, none⟩) hslt).trans c0
      have hr1 := HR.out w1 (h1.block mb hmlt)
      go_wp2_with fail
      refine (clone_byte A b.length cp w1 _ b (hrd.below h1) hlen).mono ?_
      rintro e w2 ⟨v, rfl, hM⟩
      go_wp2
      go_ret2
      refine ⟨v, rfl, (RV.of_own hM.own).mono fun k hk => ⟨Nat.le_trans h1.size hk.1, hk.2⟩, h1.trans (hM.below.mono h1.size)⟩
end Go.Proofs.YtfjndjbpgcggkaaDoor
