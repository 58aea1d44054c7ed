/- A block of the call's own is written whole, or in part: over any program. No condition. -/
import Derived.Test.YtngmipppgnlkdaaDoorM
import Derived.Laws.Tables
import Derived.Deep.MidRow
set_option linter.unusedVariables false
set_option linter.unusedSimpArgs false
namespace Go.Proofs.YtngmipppgnlkdaaDoor
open Go.RowKit

theorem block_of_list {W : World} {b : Nat} {t : TypeId} {cur : Array Value} (h : W.heap[b]? = some (.cells cur t (0, 0))) {new : Array Value} (hn : cur.toList = new.toList) : W.heap[b]? = some (.cells new t (0, 0)) := by
  have : cur = new := Array.toList_inj.1 hn
  rw [h, this]

section
variable {P : Program} {ops : Array Oper} {rest : List Oper} {o : Oper} {a : Act} {w : World} {Q : Exit → Act → World → Prop}
/-- A part of a block, from off on. -/
theorem wpList_store_part (ty : TypeId) (x y : Operand) (b off : Nat) (cells : Array Value) (t : TypeId) (old new : Array Value) (hgd : o.guard = none) (ho : o.op = .store ty x y) (hx : a.eval x = .pointer (some ⟨b, off, none⟩)) (hy : a.eval y = .agg cells)
    (hg : w.heap[b]? = some (.cells old t (0, 0))) (hi : (P.info? ty).map (·.size) = some cells.size) (hle : off + cells.size ≤ old.size) (hnew : new.toList = old.toList.take off ++ cells.toList ++ old.toList.drop (off + cells.size)) (h1 : cells.toList.all (·.oneCell') = true)
    (h : ∀ W' : World, W'.heap[b]? = some (.cells new t (0, 0)) → Keeps (fun k => k = b) w W' → wpList P ops Q rest (a.put o.dst undef) W') : wpList P ops Q (o :: rest) a w := by
  refine wpList_store_mid hgd ty x y ho b off cells hx hy (fun j hj => ?_) hi (by rw [← Array.all_toList]; exact h1) (h _ ?_ (keeps_setCells (S := fun k => k = b) b _ _ _ rfl))
  · rw [cell_of_row w b _ _ _ _ hg, Array.getElem?_eq_getElem (by omega)]
    exact ⟨rfl, frozen_of_row w b _ _ _ hg⟩
  · obtain ⟨cur', h2, h3⟩ := heap_setCells_list cells.toList off w old hg (by simpa using hle)
    exact block_of_list h2 (by rw [h3, hnew]; simp)
/-- The whole block. -/
theorem wpList_store_box (ty : TypeId) (x y : Operand) (b : Nat) (cells : Array Value) (t : TypeId) (old : Array Value) (hgd : o.guard = none) (ho : o.op = .store ty x y) (hx : a.eval x = .pointer (some ⟨b, 0, none⟩)) (hy : a.eval y = .agg cells)
    (hg : w.heap[b]? = some (.cells old t (0, 0))) (hi : (P.info? ty).map (·.size) = some cells.size) (hold : old.size = cells.size) (h1 : cells.toList.all (·.oneCell') = true)
    (h : ∀ W' : World, W'.heap[b]? = some (.cells cells t (0, 0)) → Keeps (fun k => k = b) w W' → wpList P ops Q rest (a.put o.dst undef) W') : wpList P ops Q (o :: rest) a w :=
  wpList_store_part ty x y b 0 cells t old cells hgd ho hx hy hg hi (by omega) (by simp [hold]) h1 h

/-- A variable's block is laid. -/
theorem wpList_alloc_box (T : TypeId) (z : Value) (hgd : o.guard = none) (ho : o.op = .alloc T) (hz : ((P.info? T).map fun i => i.zero) = some (some z))
    (h : ∀ (W' : World) (c : Nat), w.heap.size = c → W'.heap[c]? = some (.cells z.cells T (0, 0)) → Below w.heap.size w W' → wpList P ops Q rest (a.put o.dst (.pointer (some ⟨c, 0, none⟩))) W') : wpList P ops Q (o :: rest) a w :=
  wpList_plain hgd fun _ hK => by
    obtain ⟨i, hi, hz⟩ := Option.map_eq_some_iff.1 hz
    have hr : (Instr.alloc T true (.tuple #[])).run P w = .ok (.pointer (some ⟨w.heap.size, 0, none⟩)) (w.alloc (.cells z.cells T)) := by
      simp [Instr.alloc, zeroValue, typeInfo, hi, hz, newVar, newRow]
    unfold Oper.wp execOp
    simp only [ho, Sem.run_bind, Sem.run_pure, Result.andThen_ok, hr]
    exact hK _ _ (h _ _ rfl (heap_alloc_new w _) ((Below.refl _ _).alloc (Nat.le_refl _) _))

/-- A result that lies in a block of its own. -/
theorem results_box {f : Func} {tmps : Array Value} {slot T b : Nat} {cells : Array Value} {t : TypeId} {d : TypeDesc} (hres : f.results = #[.cell slot T]) (hs : tmps.getD slot undef = .pointer (some ⟨b, 0, none⟩))
    (hb : w.heap[b]? = some (.cells cells t (0, 0))) (hu : P.underlying T = some d) (hag : (match d with | .struct _ | .array _ _ => true | _ => false) = true) (hi : (P.info? T).map (·.size) = some cells.size) : (results f tmps).run P w = .ok (.agg cells) w := by
  have hl := run_loadVar_row (P := P) w b t T cells (0, 0) d hb hu hag hi
  have hs' : tmps[slot]?.getD undef = .pointer (some ⟨b, 0, none⟩) := by simpa using hs
  unfold results
  rw [hres]
  simp [hs', asAddr, hl]
end
end Go.Proofs.YtngmipppgnlkdaaDoor
