/- names.among, at every text and rune. -/
import Derived.Test.YtfjndjbpgcggkaaDoorDN0
import Derived.Lib.OthersKept
import Derived.WalkKit
import Derived.LoopTactic
set_option linter.unusedVariables false
set_option linter.unusedSimpArgs false
namespace Go.Proofs.YtfjndjbpgcggkaaDoor
open Go.RowKit

/-- Is c among the runes of s from place pos on (at most fuel of them)? -/
def amongFrom (s : ByteArray) (c : Int) : Nat → Nat → Bool
  | 0, _ => false
  | fuel + 1, pos => if pos < s.size then (if ((Utf8.decode s pos).1 : Int) = c then true else amongFrom s c fuel (pos + (Utf8.decode s pos).2)) else false
def among (s : ByteArray) (c : Int) : Bool := amongFrom s c s.size 0
theorem width_pos (s : ByteArray) (pos : Nat) (h : pos < s.size) : 1 ≤ (Utf8.decode s pos).2 := by
  by_cases ha : (s[pos]'h).toNat < 128
  · rw [decode_ascii s pos h ha]
    exact Nat.le_refl _
  · exact (decode_high s pos h (by omega)).2

set_option maxHeartbeats 4000000 in
set_option maxRecDepth 1000000 in
theorem among_any (s : ByteArray) (c : Int) (w : World) (hs : s.size ≤ 35184372088832) :
    Calls Tryd.prog 109 #[.string s, .int .i32 c] w fun e w' => e = .returned (.bool (among s c)) ∧ Below w.heap.size w w' := by
  obtain ⟨r, hr⟩ : ∃ r, Hid (among s c = r) := ⟨_, rfl⟩
  rw [hr.out]
  go_enter Tryd.func109, Tryd.ntmps109
  go_wp2
  go_loopw [] (fun wr => ∃ (pos fuel : Nat), wr.heap[w.heap.size]? = some (.stringIter s pos) ∧ Below w.heap.size w wr ∧ Hid (amongFrom s c fuel pos = r) ∧ s.size ≤ pos + fuel) (fun wr => s.size - wr.iterPos w.heap.size)
  case atStart =>
    refine ⟨0, s.size, ?_, (Below.refl _ w).alloc (Nat.le_refl _) _, hr, by omega⟩
    have := World.iter_heap w s 0
    simpa using this
  case round =>
    obtain ⟨pos, fuel, hit, hbw, hacc, hfu⟩ := hrel
    have hsz : w.heap.size < wr.heap.size := (Array.getElem?_eq_some_iff.1 hit).1
    by_cases hp : pos < s.size
    · have hnx : ∀ ty, (Instr.next (.pointer (some ⟨w.heap.size, 0, none⟩)) true ty).run Tryd.prog wr = _ := fun ty => Lib.run_next_any_at wr w.heap.size s pos ty hit hp
      have hwd := width_pos s pos hp
      have hit2 := Lib.iterAt_heap wr w.heap.size s pos (pos + (Utf8.decode s pos).2) hit
      have hbw2 := Lib.below_iterAt hbw (k := w.heap.size) (by omega) s (pos + (Utf8.decode s pos).2)
      obtain ⟨f, rfl⟩ : ∃ f, fuel = f + 1 := ⟨fuel - 1, by omega⟩
      by_cases hc : ((Utf8.decode s pos).1 : Int) = c
      · have hb : (((Utf8.decode s pos).1 : Int) == c) = true := by rw [beq_iff_eq]; exact hc
        have hres : r = true := by rw [← hacc.out]; simp [amongFrom, hp, hc]
        have Hc := Lib.hid hc
        clear hc
        go_wp2
        go_ret
        exact ⟨by rw [hres]; rfl, hbw2⟩
      · have hb : (((Utf8.decode s pos).1 : Int) == c) = false := by rw [beq_eq_false_iff_ne]; exact hc
        have hres : Hid (amongFrom s c f (pos + (Utf8.decode s pos).2) = r) := by
          show amongFrom s c f (pos + (Utf8.decode s pos).2) = r
          rw [← hacc.out]; simp [amongFrom, hp, hc]
        have Hc := Lib.hid hc
        clear hc
        go_wp2
        go_roundw
        case rel => exact ⟨_, f, hit2, hbw2, hres, by omega⟩
        case measure =>
          simp only [World.iterPos, hit2, hit]
          omega
    · have hnx : ∀ ty, (Instr.next (.pointer (some ⟨w.heap.size, 0, none⟩)) true ty).run Tryd.prog wr = _ := fun ty => Lib.run_next_end_at wr w.heap.size s pos ty hit hp
      have hres : r = false := by
        rw [← hacc.out]
        cases fuel with
        | zero => rfl
        | succ f => simp [amongFrom, hp]
      go_wp2
      go_ret
      exact ⟨by rw [hres]; rfl, hbw⟩
end Go.Proofs.YtfjndjbpgcggkaaDoor
