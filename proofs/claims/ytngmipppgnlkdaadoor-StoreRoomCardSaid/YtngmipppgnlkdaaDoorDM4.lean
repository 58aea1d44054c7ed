/- The store's map: a store at a key that is there. -/
import Derived.Test.YtngmipppgnlkdaaDoorDM3
set_option linter.unusedVariables false
set_option linter.unusedSimpArgs false
namespace Go.Proofs.YtngmipppgnlkdaaDoor
open Go.RowKit

def mset (s : ByteArray) (v : Value) : Ents → Ents
  | [] => []
  | x :: r => if s = x.1 then (x.1, v, x.2.2) :: r else x :: mset s v r
theorem mfind_at (s : ByteArray) : ∀ (m : Ents) (i j : Nat) (u : Value), mfind s m i = some (j, u) → ∃ b, i ≤ j ∧ m[j - i]? = some (s, u, b)
  | [], _, _, _, h => by cases h
  | x :: r, i, j, u, h => by
    unfold mfind at h
    by_cases hs : s = x.1
    · rw [if_pos hs] at h
      injection h with h
      injection h with h1 h2
      subst h1 h2
      exact ⟨x.2.2, Nat.le_refl _, by simp [hs]⟩
    · rw [if_neg hs] at h
      obtain ⟨b, h1, h2⟩ := mfind_at s r (i + 1) j u h
      refine ⟨b, by omega, ?_⟩
      rw [show j - i = (j - (i + 1)) + 1 by omega]
      simpa using h2
theorem mset_modify (s : ByteArray) (v : Value) : ∀ (m : Ents) (i j : Nat) (u : Value), mfind s m i = some (j, u) → ents (mset s v m) = (ents m).modify (j - i) fun e => { e with key := .string s, val := v }
  | [], _, _, _, h => by cases h
  | x :: r, i, j, u, h => by
    unfold mfind at h
    by_cases hs : s = x.1
    · rw [if_pos hs] at h
      injection h with h
      injection h with h1 h2
      subst h1
      simp [mset, hs, ents]
    · rw [if_neg hs] at h
      obtain ⟨b, h1, h2⟩ := mfind_at s r (i + 1) j u h
      rw [show j - i = (j - (i + 1)) + 1 by omega]
      have := mset_modify s v r (i + 1) j u h
      simp only [mset, if_neg hs, ents, List.map_cons, List.modify_succ_cons]
      simpa [ents] using this
end Go.Proofs.YtngmipppgnlkdaaDoor
