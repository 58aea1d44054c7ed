/- The store's map: look-up, store, as run equations. -/
import Derived.Test.YtngmipppgnlkdaaDoorDM1
set_option linter.unusedVariables false
set_option linter.unusedSimpArgs false
namespace Go.Proofs.YtngmipppgnlkdaaDoor
open Go.RowKit

theorem run_look (w : World) (mb clock : Nat) (m : Ents) (s : ByteArray) (ok : Bool) (h : w.heap[mb]? = some (.map (ents m).toArray clock)) :
    (Instr.lookup 64 (.map (some mb)) (.string s) ok).run Tryd.prog w = .ok (match mfind s m 0 with
      | some x => if ok then .tuple #[x.2, .bool true] else x.2
      | none => if ok then .tuple #[.slice none 0 0, .bool false] else .slice none 0 0) w := by
  have hk : Tryd.prog.underlying 9 = some .string := Tryd.underlying9
  have hc : ∀ e, (Instr.checkKey e 10000 9 (.string s)).run Tryd.prog w = .ok () w := fun e => MapKept.run_checkKey (k := .string s) hk (by simp [MapKept.IsKey]) e 9999
  have hf := MapKept.run_findKey (w := w) hk (findNow_ents s m 0)
  have hz : (zeroValue 30).run Tryd.prog w = .ok (.slice none 0 0) w := by kernel_rfl
  cases hm : mfind s m 0 with
  | none =>
    rw [hm] at hf
    cases ok <;> simp [Instr.lookup, run_underlying Tryd.underlying64, MapKept.run_getObj_map h, hc, hf, hz, Result.andThen]
  | some x =>
    rw [hm] at hf
    cases ok <;> simp [Instr.lookup, run_underlying Tryd.underlying64, MapKept.run_getObj_map h, hc, hf, Result.andThen]
end Go.Proofs.YtngmipppgnlkdaaDoor
