/- The store's map: a store at a key that is there, as a run equation. -/
import Derived.Test.YtngmipppgnlkdaaDoorDM4
set_option linter.unusedVariables false
set_option linter.unusedSimpArgs false
namespace Go.Proofs.YtngmipppgnlkdaaDoor
open Go.RowKit

theorem run_put_old (w : World) (mb clock : Nat) (m : Ents) (s : ByteArray) (v : Value) (x : Nat × Value) (h : w.heap[mb]? = some (.map (ents m).toArray clock)) (hm : mfind s m 0 = some x) :
    (Instr.mapUpdate 64 (.map (some mb)) (.string s) v).run Tryd.prog w = .ok () { w with heap := w.heap.setIfInBounds mb (.map (ents (mset s v m)).toArray clock) } := by
  have hk : Tryd.prog.underlying 9 = some .string := Tryd.underlying9
  have hc : (Instr.checkKey false 10000 9 (.string s)).run Tryd.prog w = .ok () w := MapKept.run_checkKey (k := .string s) hk (by simp [MapKept.IsKey]) false 9999
  have hf := MapKept.run_findKey (w := w) hk (findNow_ents s m 0)
  obtain ⟨j, u⟩ := x
  rw [hm] at hf
  obtain ⟨b, -, hj⟩ := mfind_at s m 0 j u hm
  have hmod := mset_modify s v m 0 j u hm
  simp only [Nat.sub_zero] at hj hmod
  have hold : ((((ents m)[j]?).map (·.key)).getD (.string s)) = .string s := by simp [ents, hj]
  have hst : (Instr.keyThatStays (.string s) (.string s)).run Tryd.prog w = .ok (.string s) w := by
    have : Instr.sameBits 10000 (.string s) (.string s) = true := by simp [Instr.sameBits, MapKept.bytes_beq]
    simp [Instr.keyThatStays, this]
  rw [hmod]
  simp [Instr.mapUpdate, run_underlying Tryd.underlying64, MapKept.run_getObj_map h, hc, hf, MapKept.run_setObj_map _ h, Result.andThen, hold, hst]
end Go.Proofs.YtngmipppgnlkdaaDoor
