/- Rows of elements of many cells: one cell of an element set; rows made. Over any program. -/
import Derived.Test.YtngmipppgnlkdaaX
set_option linter.unusedVariables false
set_option linter.unusedSimpArgs false
namespace Go.Proofs.Ytngmipppgnlkdaa
open Go.RowKit

section
variable {α : Type} {K : Kind α} {e : TypeId} {W W' : World} {F : Foot} {xs : List α} {g n c i j : Nat}
theorem OwnS.setField (h : OwnS K e W F (.slice (some ⟨g, 0, none⟩) n c) xs) (hj : j < K.size) {x y : α} {u : Value} (hx : xs[i]? = some x) (hy : ∀ W F cs, K.rep W F x cs → K.rep W F y (cs.set j u)) :
    OwnS K e (W.setCell ⟨g, i * K.size + j, none⟩ u) F (.slice (some ⟨g, 0, none⟩) n c) (xs.set i y) := by
  obtain ⟨cs, ⟨h1, h2⟩, h3, h4⟩ := h
  rcases h2 with ⟨hbad, _⟩ | ⟨g', cap, cur, hv, _, hh, hn, hc, hsz, htk⟩
  · cases hbad
  simp only [Value.slice.injEq, Option.some.injEq, Addr.mk.injEq, and_true] at hv
  obtain ⟨rfl, rfl, rfl⟩ := hv
  have hi : i < xs.length := (List.getElem?_eq_some_iff.1 hx).1
  have h3' := h3.keep (W' := W.setCell ⟨g, i * K.size + j, none⟩ u) (fun k hk hlt => Below.heap_setCell _ _ _ _ (fun e => hk.2 (by rw [e]; rfl)))
  refine ⟨cs.set (i * K.size + j) u, ⟨by rw [List.length_set, List.length_set]; exact h1, .inr ⟨g, c, cur.setIfInBounds (i * K.size + j) u, by rw [List.length_set], Nat.zero_le _, heap_setCell_same W g _ cur e u hh, by rw [List.length_set]; exact hn, hc, by simp [hsz], ?_⟩⟩, ⟨by rw [List.length_set, List.length_set]; exact h1, fun q z hz => ?_⟩, h4⟩
  · rw [List.length_set, Array.toList_setIfInBounds, List.take_set, htk]
  · have hmul : ∀ a b : Nat, a < b → a * K.size + K.size ≤ b * K.size := fun a b h => by
      have := Nat.mul_le_mul_right K.size (show a + 1 ≤ b from h)
      rwa [Nat.succ_mul] at this
    by_cases hiq : i = q
    · subst hiq
      rw [List.getElem?_set_self hi] at hz
      injection hz with hz
      subst hz
      have hr := hy _ _ _ (h3'.2 i x hx)
      have : ((cs.set (i * K.size + j) u).drop (i * K.size)).take K.size = ((cs.drop (i * K.size)).take K.size).set j u := by
        apply List.ext_getElem?
        intro p
        rw [List.getElem?_take, List.getElem?_drop]
        by_cases hp : p < K.size
        · rw [if_pos hp]
          by_cases hpj : j = p
          · subst hpj
            have hl := hmul i xs.length hi
            rw [List.getElem?_set_self (by omega), List.getElem?_set_self (by rw [List.length_take, List.length_drop]; omega)]
          · rw [List.getElem?_set_ne (by omega), List.getElem?_set_ne hpj, List.getElem?_take, if_pos hp, List.getElem?_drop]
        · rw [if_neg hp, List.getElem?_eq_none (by rw [List.length_set, List.length_take]; omega)]
      rw [this]
      exact hr
    · rw [List.getElem?_set_ne hiq] at hz
      have hr := h3'.2 q z hz
      have : ((cs.set (i * K.size + j) u).drop (q * K.size)).take K.size = (cs.drop (q * K.size)).take K.size := by
        apply List.ext_getElem?
        intro p
        rw [List.getElem?_take, List.getElem?_take, List.getElem?_drop, List.getElem?_drop]
        by_cases hp : p < K.size
        · rw [if_pos hp, if_pos hp, List.getElem?_set_ne]
          rcases Nat.lt_or_gt_of_ne hiq with h | h
          · have := hmul i q h; omega
          · have := hmul q i h; omega
        · rw [if_neg hp, if_neg hp]
      rw [this]
      exact hr
end

theorem run_make_K {P : Program} {α : Type} {K : Kind α} {t e bytes : Nat} (E : ElemT P t e K.size bytes) {z : Value} {x : α} (hz : (P.info? e).map (fun i => i.zero) = some (some z)) (hx : ∀ W F, K.rep W F x z.cells.toList)
    (W : World) (n : Nat) (hn : bytes * n ≤ 281474976710656) (hn2 : n ≤ 9223372036854775807) :
    ∃ W', (Instr.makeSlice t (.int .i64 (n : Int)) (.int .i64 (n : Int))).run P W = .ok (.slice (some ⟨W.heap.size, 0, none⟩) n n) W' ∧ OwnS K e W' (New W W') (.slice (some ⟨W.heap.size, 0, none⟩) n n) (List.replicate n x) ∧ Below W.heap.size W W' := by
  obtain ⟨i, z', hi, hz', hsz, hb, hzs⟩ := E.info
  obtain rfl : z' = z := by rw [hi] at hz; simp only [Option.map_some, hz', Option.some.injEq] at hz; exact hz
  obtain ⟨W', hr, ho, hg⟩ := run_make_full (P := P) W 0 t e i z' K.size E.ht hi hz' hsz .i64 .i64 n (by rw [hb]; exact hn) (by simp only [maxLen]; omega) (Nat.zero_le _)
  have hlen : (madeCells z'.cells (n * K.size)).toList.length = n * K.size := by simp [madeCells]
  refine ⟨W', hr, ⟨_, by rw [List.length_replicate]; exact ho, ⟨by rw [List.length_replicate]; exact hlen, fun j y hy => ?_⟩, fun k hk => ?_⟩, ⟨hg.os, hg.tape, hg.output, hg.size, fun k hk => hg.block k hk (by simp)⟩⟩
  · obtain ⟨hj, hy⟩ := List.getElem?_eq_some_iff.1 hy
    rw [List.length_replicate] at hj
    rw [List.getElem_replicate] at hy
    subst hy
    have hmul : j * K.size + K.size ≤ n * K.size := by
      have := Nat.mul_le_mul_right K.size (show j + 1 ≤ n from hj)
      rwa [Nat.succ_mul] at this
    have : ((madeCells z'.cells (n * K.size)).toList.drop (j * K.size)).take K.size = z'.cells.toList := by
      apply List.ext_getElem?
      intro p
      rw [List.getElem?_take, List.getElem?_drop]
      by_cases hp : p < K.size
      · rw [if_pos hp, Array.getElem?_toList, madeCells, Array.getElem?_map, Array.getElem?_range, if_pos (by omega)]
        simp only [Option.map_some]
        rw [hzs, Nat.mul_comm, Nat.mul_add_mod, Nat.mod_eq_of_lt hp, getElem!_pos z'.cells p (by omega), Array.getElem?_toList, Array.getElem?_eq_getElem (by omega)]
      · rw [if_neg hp, List.getElem?_eq_none (by simp; omega)]
    rw [this]
    exact hx _ _
  · have h1 := ho.lt k hk
    have : W.heap.size = k := by simpa [Value.ownBlock] using hk
    exact ⟨by omega, h1.2⟩
end Go.Proofs.Ytngmipppgnlkdaa
