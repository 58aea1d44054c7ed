/- A row of numbers, sorted. -/
import Derived.Test.YtikpbhhnllchmaaRSh
import Derived.Test.YtikpbhhnllchmaaL
set_option linter.unusedVariables false
set_option linter.unusedSimpArgs false
namespace Go.Proofs.Ytikpbhhnllchmaa
open Go.RowKit Go.Sort

def sortI (xs : List Int) : List Int := xs.mergeSort fun x y => decide (x ≤ y)
theorem sortI_length (xs : List Int) : (sortI xs).length = xs.length := by simp [sortI]
theorem elems_int64 {W : World} {F : Foot} : ∀ {xs : List Int} {cs : List Value}, Elems (kInt .i64) W F xs cs → cs = xs.map (Value.int .i64) := by
  intro xs cs h
  apply List.ext_getElem?
  intro j
  rw [List.getElem?_map]
  cases hx : xs[j]? with
  | none =>
    rw [List.getElem?_eq_none_iff] at hx
    have := h.1
    rw [show (kInt .i64).size = 1 from rfl, Nat.mul_one] at this
    rw [List.getElem?_eq_none (by omega)]; rfl
  | some x =>
    have h2 : ((cs.drop (j * 1)).take 1) = [.int .i64 x] := h.2 j x hx
    rw [Nat.mul_one] at h2
    have : ((cs.drop j).take 1)[0]? = some (.int .i64 x) := by rw [h2]; rfl
    rw [List.getElem?_take, if_pos (by omega), List.getElem?_drop, Nat.add_zero] at this
    exact this
theorem elems_of_ints {W : World} {F : Foot} (xs : List Int) : Elems (kInt .i64) W F xs (xs.map (Value.int .i64)) := by
  refine ⟨by simp [show (kInt .i64).size = 1 from rfl], fun j x hx => ?_⟩
  show ((xs.map (Value.int .i64)).drop (j * 1)).take 1 = [.int .i64 x]
  rw [Nat.mul_one, List.drop_eq_getElem_cons (by rw [List.length_map]; exact (List.getElem?_eq_some_iff.1 hx).1)]
  simp
  exact (List.getElem?_eq_some_iff.1 hx).2

set_option maxRecDepth 100000 in
theorem sortI_own (v : Value) (xs : List Int) (W : World) (F : Foot) (h : OwnS (kInt .i64) 3 W F v xs) (hpos : 0 < xs.length) (hn : xs.length ≤ 1000000000000) :
    Calls Try.prog 64 #[v] W fun e w' => e = .returned (.tuple #[]) ∧ OwnS (kInt .i64) 3 w' F v (sortI xs) ∧ Keeps (fun k => v.ownBlock = some k) W w' := by
  have hF := h.lt
  obtain ⟨cs, h1, h2, h3⟩ := h
  have hcs := elems_int64 h2
  rcases h1.2 with ⟨hb, h0⟩ | ⟨g, cap, cur, hv, _, hh, hnc, hcm, hsz, htk⟩
  · omega
  subst hv
  rw [show (kInt .i64).size = 1 from rfl, Nat.mul_one] at hsz htk
  obtain ⟨hFg, hg⟩ := hF g rfl
  have hcell : ∀ j, j < xs.length → cur[j]? = (xs[j]?).map (Value.int .i64) := fun j hj => by
    have : (cur.toList.take xs.length)[j]? = (xs.map (Value.int .i64))[j]? := by rw [htk, hcs]
    rw [List.getElem?_take, if_pos hj, List.getElem?_map] at this
    simpa using this
  have hH : Holds (Value.int .i64) W g 0 xs.toArray := fun j hj => by
    have hj' : j < xs.length := by simpa using hj
    refine ⟨?_, by simp [World.frozen?, hh]⟩
    have := hcell j hj'
    rw [List.getElem?_eq_getElem hj'] at this
    rw [Nat.zero_add]
    simp only [World.cell?, hh, this, Option.map_some]
    simp [hj']
  refine (Try.slices_Sort_int g 0 cap xs W hH hg (by omega)).mono ?_
  rintro e w' ⟨rfl, n, os, rfl⟩
  generalize hsl : (xs.mergeSort fun x y => decide (x ≤ y)) = sl
  have hsll : sl.length = xs.length := by rw [← hsl]; simp
  have hsB : sortI xs = sl := hsl
  have hheap : ∀ k, k < W.heap.size → (grow (putRow (Value.int .i64) (Sort.ahead W n) g 0 sl.toArray) os).heap[k]? = (W.heap.modify g (onCells (putCells (Value.int .i64) 0 sl.toArray)))[k]? := fun k hk => by
    simp only [grow, putRow, mapBlock, Sort.ahead]
    rw [Array.getElem?_append_left (by simpa using hk)]
  refine ⟨rfl, ⟨(sortI xs).map (Value.int .i64), ⟨by rw [List.length_map, sortI_length, show (kInt .i64).size = 1 from rfl, Nat.mul_one], .inr ⟨g, cap, putCells (Value.int .i64) 0 sl.toArray cur, by rw [sortI_length], Nat.zero_le _, ?_, by rw [sortI_length]; exact hnc, hcm, ?_, ?_⟩⟩, ?_, fun k hk => h3 k hk⟩, ?_⟩
  · rw [hheap g hg, Array.getElem?_modify, if_pos rfl, hh]
    rfl
  · simp [putCells, hsz, show (kInt .i64).size = 1 from rfl]
  · rw [show (kInt .i64).size = 1 from rfl, Nat.mul_one, sortI_length, hsB]
    apply List.ext_getElem?
    intro j
    rw [List.getElem?_take]
    by_cases hj : j < xs.length
    · rw [if_pos hj]
      have hjc : j < cur.size := by omega
      simp only [putCells, Array.getElem?_toList, Array.getElem?_mapIdx, Array.getElem?_eq_getElem hjc, Option.map_some, Nat.zero_le, true_and, Nat.zero_add, List.size_toArray, hsll, hj, if_true, Nat.sub_zero, List.getElem?_map]
      rw [List.getElem?_eq_getElem (by omega)]
      simp [hsll, hj]
    · rw [if_neg hj, List.getElem?_eq_none (by simp [hsll]; omega)]
  · exact elems_of_ints _
  · refine ⟨rfl, rfl, rfl, by simp [grow, putRow, mapBlock, Sort.ahead], fun k hk hn => ?_⟩
    rw [hheap k hk, Array.getElem?_modify, if_neg (fun e => hn (by rw [e]; rfl))]
end Go.Proofs.Ytikpbhhnllchmaa
