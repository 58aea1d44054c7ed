/- The store's map: a store, as run equations. -/
import Derived.Test.YtngmipppgnlkdaaDoorDM2
set_option linter.unusedVariables false
set_option linter.unusedSimpArgs false
namespace Go.Proofs.YtngmipppgnlkdaaDoor
open Go.RowKit

theorem run_put_new (w : World) (mb clock : Nat) (m : Ents) (s : ByteArray) (v : Value) (h : w.heap[mb]? = some (.map (ents m).toArray clock)) (hm : mfind s m 0 = none) :
    (Instr.mapUpdate 64 (.map (some mb)) (.string s) v).run Tryd.prog w = .ok () { w with heap := w.heap.setIfInBounds mb (.map (ents (m ++ [(s, v, clock)])).toArray (clock + 1)) } := by
  have hk : Tryd.prog.underlying 9 = some .string := Tryd.underlying9
  have hc : (Instr.checkKey false 10000 9 (.string s)).run Tryd.prog w = .ok () w := MapKept.run_checkKey (k := .string s) hk (by simp [MapKept.IsKey]) false 9999
  have hf := MapKept.run_findKey (w := w) hk (findNow_ents s m 0)
  rw [hm] at hf
  have he : (ents m).toArray.push { key := .string s, val := v, born := clock } = (ents (m ++ [(s, v, clock)])).toArray := by simp [ents]
  simp [Instr.mapUpdate, run_underlying Tryd.underlying64, MapKept.run_getObj_map h, hc, hf, MapKept.run_setObj_map _ h, Result.andThen]
  simp [ents]
end Go.Proofs.YtngmipppgnlkdaaDoor
