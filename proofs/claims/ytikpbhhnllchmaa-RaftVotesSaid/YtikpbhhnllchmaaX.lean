/- Rows of one-cell elements: made, and one element set. Over any program. -/
import Derived.Test.YtikpbhhnllchmaaL
import Derived.Laws.OwnMore
set_option linter.unusedVariables false
set_option linter.unusedSimpArgs false
namespace Go.Proofs.Ytikpbhhnllchmaa
open Go.RowKit

section
variable {α : Type} {K : Kind α} {e : TypeId} {W W' : World} {F : Foot} {xs : List α} {g n c i : Nat}
theorem OwnS.set1 (hs : K.size = 1) (hf : Flat K) (h : OwnS K e W F (.slice (some ⟨g, 0, none⟩) n c) xs) (hi : i < n) {x : α} {u : Value} (hx : ∀ W F, K.rep W F x [u]) :
    OwnS K e (W.setCell ⟨g, i, none⟩ u) F (.slice (some ⟨g, 0, none⟩) n c) (xs.set i x) := by
  obtain ⟨cs, ⟨h1, h2⟩, h3, h4⟩ := h
  rcases h2 with ⟨hbad, _⟩ | ⟨g', cap, cur, hv, _, hh, hn, hc, hsz, htk⟩
  · cases hbad
  simp only [Value.slice.injEq, Option.some.injEq, Addr.mk.injEq, and_true] at hv
  obtain ⟨rfl, rfl, rfl⟩ := hv
  have h1' : cs.length = xs.length := by rw [h1, hs, Nat.mul_one]
  refine ⟨cs.set i u, ⟨by rw [List.length_set, List.length_set]; exact h1, .inr ⟨g, c, cur.setIfInBounds i u, by rw [List.length_set], Nat.zero_le _, heap_setCell_same W g i cur e u hh, by rw [List.length_set]; exact hn, hc, by simp [hsz], ?_⟩⟩, ⟨by rw [List.length_set, List.length_set]; exact h1, fun j y hy => ?_⟩, h4⟩
  · rw [List.length_set, Array.toList_setIfInBounds, List.take_set, htk]
  · rw [hs, Nat.mul_one]
    by_cases hij : i = j
    · subst hij
      rw [List.getElem?_set_self hi] at hy
      injection hy with hy
      subst hy
      have : ((cs.set i u).drop i).take 1 = [u] := by
        rw [List.drop_eq_getElem_cons (by rw [List.length_set]; omega)]
        simp
      rw [this]
      exact hx _ _
    · rw [List.getElem?_set_ne hij] at hy
      have hr := h3.2 j y hy
      rw [hs, Nat.mul_one] at hr
      have hjl := (List.getElem?_eq_some_iff.1 hy).1
      have : ((cs.set i u).drop j).take 1 = (cs.drop j).take 1 := by
        apply List.ext_getElem?
        intro q
        rw [List.getElem?_take, List.getElem?_take, List.getElem?_drop, List.getElem?_drop]
        by_cases hq : q < 1
        · rw [if_pos hq, if_pos hq, List.getElem?_set_ne (by omega)]
        · rw [if_neg hq, if_neg hq]
      rw [this]
      exact hf _ _ _ _ _ _ hr
end

theorem run_make_S {P : Program} {α : Type} {K : Kind α} {t e bytes : Nat} (E : ElemT P t e K.size bytes) (hs : K.size = 1) {z : Value} {x : α} (hz : (P.info? e).map (fun i => i.zero) = some (some z)) (hzc : z.cells = #[z]) (hx : ∀ W F, K.rep W F x [z])
    (W : World) (n : Nat) (hn : bytes * n ≤ 281474976710656) (hn2 : n ≤ 9223372036854775807) :
    ∃ W', (Instr.makeSlice t (.int .i64 (n : Int)) (.int .i64 (n : Int))).run P W = .ok (.slice (some ⟨W.heap.size, 0, none⟩) n n) W' ∧ OwnS K e W' (New W W') (.slice (some ⟨W.heap.size, 0, none⟩) n n) (List.replicate n x) ∧ Below W.heap.size W W' := by
  obtain ⟨i, z', hi, hz', hsz, hb, hzs⟩ := E.info
  obtain rfl : z' = z := by rw [hi] at hz; simp only [Option.map_some, hz', Option.some.injEq] at hz; exact hz
  obtain ⟨W', hr, ho, hg⟩ := run_make_full (P := P) W 0 t e i z' K.size E.ht hi hz' hsz .i64 .i64 n (by rw [hb]; exact hn) (by simp only [maxLen]; omega) (Nat.zero_le _)
  rw [hs, Nat.mul_one, hzc, toList_madeCells_one] at ho
  refine ⟨W', hr, ⟨List.replicate n z', by rw [List.length_replicate, hs]; exact ho, ⟨by simp [hs], fun j y hy => ?_⟩, fun k hk => ?_⟩, ⟨hg.os, hg.tape, hg.output, hg.size, fun k hk => hg.block k hk (by simp)⟩⟩
  · obtain ⟨hj, hy⟩ := List.getElem?_eq_some_iff.1 hy
    rw [List.length_replicate] at hj
    rw [List.getElem_replicate] at hy
    subst hy
    have : ((List.replicate n z').drop (j * K.size)).take K.size = [z'] := by
      rw [hs, Nat.mul_one, List.drop_replicate, List.take_replicate, Nat.min_eq_left (by omega)]; rfl
    rw [this]
    exact hx _ _
  · have h1 := ho.lt k hk
    have : W.heap.size = k := by simpa [Value.ownBlock] using hk
    exact ⟨by omega, h1.2⟩
end Go.Proofs.Ytikpbhhnllchmaa
