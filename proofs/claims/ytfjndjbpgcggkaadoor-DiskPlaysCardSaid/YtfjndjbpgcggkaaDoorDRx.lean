/- An owned row: one element written. Over any program. -/
import Derived.Test.YtfjndjbpgcggkaaDoorL
set_option linter.unusedVariables false
set_option linter.unusedSimpArgs false
namespace Go.Proofs.YtfjndjbpgcggkaaDoor
open Go.RowKit

section
variable {α : Type} {K : Kind α} {e : TypeId} {W W' : World} {F : Foot} {xs : List α} {g n c i : Nat}
/-- The row's block holds other cells at element i alone. -/
theorem OwnS.setRow (h : OwnS K e W F (.slice (some ⟨g, 0, none⟩) n c) xs) {cur cur' : Array Value} (hW : W.heap[g]? = some (.cells cur e (0, 0))) (hW' : W'.heap[g]? = some (.cells cur' e (0, 0))) (hi : i < n) (hsz : cur'.size = cur.size)
    (hot : ∀ j, (j < i * K.size ∨ (i + 1) * K.size ≤ j) → cur'[j]? = cur[j]?) (hk : ∀ k, F k → k ≠ g → k < W.heap.size → W'.heap[k]? = W.heap[k]?) {x : α}
    (hx : K.rep W' (fun k => F k ∧ k ≠ g) x ((cur'.toList.drop (i * K.size)).take K.size)) :
    OwnS K e W' F (.slice (some ⟨g, 0, none⟩) n c) (xs.set i x) := by
  obtain ⟨cs, ⟨h1, h2⟩, h3, h4⟩ := h
  rcases h2 with ⟨hbad, _⟩ | ⟨g', cap, cur0, hv, _, hh, hn, hc, hs, htk⟩
  · cases hbad
  simp only [Value.slice.injEq, Option.some.injEq, Addr.mk.injEq, and_true] at hv
  obtain ⟨rfl, rfl, rfl⟩ := hv
  obtain rfl : cur = cur0 := by rw [hW] at hh; injection hh with hh; injection hh
  have hlen : (cur'.toList.take (xs.length * K.size)).length = xs.length * K.size := by
    rw [List.length_take]
    refine Nat.min_eq_left ?_
    show xs.length * K.size ≤ cur'.size
    rw [hsz, hs]
    exact Nat.mul_le_mul_right _ hn
  refine ⟨cur'.toList.take (xs.length * K.size), ⟨by rw [List.length_set]; exact hlen, .inr ⟨g, c, cur', by rw [List.length_set], Nat.zero_le _, hW', by rw [List.length_set]; exact hn, hc, by rw [hsz]; exact hs, by rw [List.length_set]⟩⟩, ⟨by rw [List.length_set]; exact hlen, fun j y hy => ?_⟩, h4⟩
  have hjl : j < xs.length := by have := (List.getElem?_eq_some_iff.1 hy).1; simpa using this
  have hle : j * K.size + K.size ≤ xs.length * K.size := by rw [← Nat.succ_mul]; exact Nat.mul_le_mul_right _ hjl
  have hcut : ∀ (l : List Value), ((l.take (xs.length * K.size)).drop (j * K.size)).take K.size = (l.drop (j * K.size)).take K.size := fun l => by
    rw [List.drop_take, List.take_take, Nat.min_eq_left (by omega)]
  rw [hcut]
  by_cases hij : i = j
  · subst hij
    rw [List.getElem?_set_self hi] at hy
    injection hy with hy
    subst hy
    exact K.mono hx fun k hk => ⟨hk.1, fun e => hk.2 (by simpa [Value.ownBlock] using e.symm)⟩
  · rw [List.getElem?_set_ne hij] at hy
    have hr := h3.2 j y hy
    rw [← htk, hcut] at hr
    have hsame : (cur'.toList.drop (j * K.size)).take K.size = (cur.toList.drop (j * K.size)).take K.size := by
      apply List.ext_getElem?
      intro q
      rw [List.getElem?_take, List.getElem?_take, List.getElem?_drop, List.getElem?_drop]
      by_cases hq : q < K.size
      · rw [if_pos hq, if_pos hq, Array.getElem?_toList, Array.getElem?_toList]
        refine hot _ ?_
        rcases Nat.lt_or_gt_of_ne hij with h | h
        · right
          have : (i + 1) * K.size ≤ j * K.size := Nat.mul_le_mul_right _ h
          omega
        · left
          have : (j + 1) * K.size ≤ i * K.size := Nat.mul_le_mul_right _ h
          rw [Nat.succ_mul] at this
          omega
      · rw [if_neg hq, if_neg hq]
    rw [hsame]
    exact K.keep hr fun k hf hl => hk k hf.1 (fun e => hf.2 (by simp [Value.ownBlock, e])) hl
/-- The row's cells. -/
theorem OwnS.cur (h : OwnS K e W F (.slice (some ⟨g, 0, none⟩) n c) xs) : ∃ cur, W.heap[g]? = some (.cells cur e (0, 0)) ∧ n ≤ c ∧ cur.size = c * K.size ∧ n = xs.length ∧ F g := by
  obtain ⟨cs, ⟨h1, h2⟩, h3, h4⟩ := h
  rcases h2 with ⟨hbad, _⟩ | ⟨g', cap, cur0, hv, _, hh, hn, hc, hs, htk⟩
  · cases hbad
  simp only [Value.slice.injEq, Option.some.injEq, Addr.mk.injEq, and_true] at hv
  obtain ⟨rfl, rfl, rfl⟩ := hv
  exact ⟨cur0, hh, hn, hs, rfl, h4 g rfl⟩
theorem OwnS.first {a : Addr} (h : OwnS K e W F (.slice (some a) n c) xs) : ∃ g, a = ⟨g, 0, none⟩ := by
  obtain ⟨cs, ⟨h1, h2⟩, h3, h4⟩ := h
  rcases h2 with ⟨hbad, _⟩ | ⟨g', cap, cur0, hv, _⟩
  · cases hbad
  · simp only [Value.slice.injEq, Option.some.injEq] at hv
    exact ⟨g', hv.1⟩
end
theorem heap_set3 (W : World) (g o : Nat) (cur : Array Value) (t : TypeId) (a b d : Value) (h : W.heap[g]? = some (.cells cur t (0, 0))) :
    (((W.setCell ⟨g, o, none⟩ a).setCell ⟨g, o + 1, none⟩ b).setCell ⟨g, o + 2, none⟩ d).heap[g]? = some (.cells (((cur.setIfInBounds o a).setIfInBounds (o + 1) b).setIfInBounds (o + 2) d) t (0, 0)) :=
  heap_setCell_same _ g _ _ _ _ (heap_setCell_same _ g _ _ _ _ (heap_setCell_same W g o cur t a h))
end Go.Proofs.YtfjndjbpgcggkaaDoor
