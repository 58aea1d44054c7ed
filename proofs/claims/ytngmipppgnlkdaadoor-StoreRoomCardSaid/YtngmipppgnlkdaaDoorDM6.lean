/- The store's map: delete of a key that is there. -/
import Derived.Test.YtngmipppgnlkdaaDoorDM5
set_option linter.unusedVariables false
set_option linter.unusedSimpArgs false
namespace Go.Proofs.YtngmipppgnlkdaaDoor
open Go.RowKit

def mdel (s : ByteArray) : Ents → Ents
  | [] => []
  | x :: r => if s = x.1 then r else x :: mdel s r
theorem mdel_erase (s : ByteArray) : ∀ (m : Ents) (i j : Nat) (u : Value), mfind s m i = some (j, u) → ents (mdel s m) = (ents m).eraseIdx (j - i)
  | [], _, _, _, h => by cases h
  | x :: r, i, j, u, h => by
    unfold mfind at h
    by_cases hs : s = x.1
    · rw [if_pos hs] at h
      injection h with h
      injection h with h1 h2
      subst h1
      simp [mdel, hs, ents]
    · rw [if_neg hs] at h
      obtain ⟨b, h1, h2⟩ := mfind_at s r (i + 1) j u h
      rw [show j - i = (j - (i + 1)) + 1 by omega]
      have := mdel_erase s r (i + 1) j u h
      simp only [mdel, if_neg hs, ents, List.map_cons, List.eraseIdx_cons_succ]
      simpa [ents] using this
theorem run_del (w : World) (mb clock : Nat) (m : Ents) (s : ByteArray) (T : TypeId) (x : Nat × Value) (h : w.heap[mb]? = some (.map (ents m).toArray clock)) (hm : mfind s m 0 = some x) :
    (Builtin.delete_ #[64, 9] T #[.map (some mb), .string s]).run Tryd.prog w = .ok (.tuple #[]) { w with heap := w.heap.setIfInBounds mb (.map (ents (mdel s m)).toArray clock) } := by
  have hk : Tryd.prog.underlying 9 = some .string := Tryd.underlying9
  have hc : ∀ e, (Instr.checkKey e 10000 9 (.string s)).run Tryd.prog w = .ok () w := fun e => MapKept.run_checkKey (k := .string s) hk (by simp [MapKept.IsKey]) e 9999
  have hf := MapKept.run_findKey (w := w) hk (findNow_ents s m 0)
  obtain ⟨j, u⟩ := x
  rw [hm] at hf
  obtain ⟨b, -, hj⟩ := mfind_at s m 0 j u hm
  have hmod := mdel_erase s m 0 j u hm
  simp only [Nat.sub_zero] at hj hmod
  have hjl : j < (ents m).length := by
    have := (List.getElem?_eq_some_iff.1 hj).1
    simpa [ents] using this
  rw [hmod]
  simp [Builtin.delete_, run_underlying Tryd.underlying64, MapKept.run_getObj_map h, hc, hf, MapKept.run_setObj_map _ h, Result.andThen, Array.eraseIdxIfInBounds, hjl]
end Go.Proofs.YtngmipppgnlkdaaDoor
