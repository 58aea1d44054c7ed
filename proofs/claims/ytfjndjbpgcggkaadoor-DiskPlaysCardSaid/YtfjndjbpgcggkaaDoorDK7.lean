/- A row of texts, sorted. -/
import Derived.Test.YtfjndjbpgcggkaaDoorDVs
import Derived.Test.YtfjndjbpgcggkaaDoorMG1
set_option linter.unusedVariables false
set_option linter.unusedSimpArgs false
namespace Go.Proofs.YtfjndjbpgcggkaaDoor
open Go.RowKit Go.Sort

def sortB (xs : List ByteArray) : List ByteArray := ((xs.map fun s => s.data.toList).mergeSort fun x y => decide (x ≤ y)).map fun l => ⟨l.toArray⟩
theorem sortB_length (xs : List ByteArray) : (sortB xs).length = xs.length := by simp [sortB]
theorem elems_string {W : World} {F : Foot} : ∀ {xs : List ByteArray} {cs : List Value}, Elems kString W F xs cs → cs = xs.map Value.string := by
  intro xs cs h
  apply List.ext_getElem?
  intro j
  rw [List.getElem?_map]
  cases hx : xs[j]? with
  | none =>
    rw [List.getElem?_eq_none_iff] at hx
    have := h.1
    rw [show kString.size = 1 from rfl, Nat.mul_one] at this
    rw [List.getElem?_eq_none (by omega)]; rfl
  | some x =>
    have h2 : ((cs.drop (j * 1)).take 1) = [.string x] := h.2 j x hx
    rw [Nat.mul_one] at h2
    have : ((cs.drop j).take 1)[0]? = some (.string x) := by rw [h2]; rfl
    rw [List.getElem?_take, if_pos (by omega), List.getElem?_drop, Nat.add_zero] at this
    exact this
theorem elems_of_strings {W : World} {F : Foot} (xs : List ByteArray) : Elems kString W F xs (xs.map Value.string) := by
  refine ⟨by simp [show kString.size = 1 from rfl], fun j x hx => ?_⟩
  show ((xs.map Value.string).drop (j * 1)).take 1 = [.string x]
  rw [Nat.mul_one, List.drop_eq_getElem_cons (by rw [List.length_map]; exact (List.getElem?_eq_some_iff.1 hx).1)]
  simp
  exact (List.getElem?_eq_some_iff.1 hx).2

set_option maxRecDepth 100000 in
theorem sort_own (v : Value) (xs : List ByteArray) (W : World) (F : Foot) (h : OwnS kString 9 W F v xs) (hn : xs.length ≤ 1000000000000) :
    Calls Tryd.prog 57 #[v] W fun e w' => e = .returned (.tuple #[]) ∧ OwnS kString 9 w' F v (sortB xs) ∧ Keeps (fun k => v.ownBlock = some k) W w' := by
  obtain ⟨A, c, rfl, -, -⟩ := h.slice
  cases hx : xs with
  | nil =>
    subst hx
    refine (Tryd.SortNone A c W).mono ?_
    rintro e w' ⟨rfl, rfl⟩
    refine ⟨rfl, ?_, Keeps.refl _ _⟩
    have : sortB [] = [] := by simp [sortB]
    rw [this]
    exact h
  | cons x0 xr =>
    rw [← hx]
    have hpos : 0 < xs.length := by rw [hx]; simp
    have hF := h.lt
    obtain ⟨cs, h1, h2, h3⟩ := h
    have hcs := elems_string h2
    rcases h1.2 with ⟨hb, _⟩ | ⟨g, cap, cur, hv, _, hh, hnc, hcm, hsz, htk⟩
    · injection hb with hb _ _
      omega
    injection hv with hA _ hc
    subst hA hc
    rw [show kString.size = 1 from rfl, Nat.mul_one] at hsz htk
    obtain ⟨hFg, hg⟩ := hF g rfl
    have hcell : ∀ j, j < xs.length → cur[j]? = (xs[j]?).map Value.string := fun j hj => by
      have : (cur.toList.take xs.length)[j]? = (xs.map Value.string)[j]? := by rw [htk, hcs]
      rw [List.getElem?_take, if_pos hj, List.getElem?_map] at this
      simpa using this
    have hlen : (xs.map fun s => s.data.toList).length = xs.length := by simp
    have hH : Holds encStr W g 0 (xs.map fun s => s.data.toList).toArray := fun j hj => by
      have hj' : j < xs.length := by simpa using hj
      refine ⟨?_, by simp [World.frozen?, hh]⟩
      have := hcell j hj'
      rw [List.getElem?_eq_getElem hj'] at this
      rw [Nat.zero_add]
      simp only [World.cell?, hh, this, Option.map_some]
      simp [encStr, hj']
    have := Tryd.SortStrings g 0 c (xs.map fun s => s.data.toList) W hH hg (by rw [hlen]; omega)
    rw [hlen] at this
    refine this.mono ?_
    rintro e w' ⟨rfl, n, os, rfl⟩
    generalize hsl : ((xs.map fun s => s.data.toList).mergeSort fun x y => decide (x ≤ y)) = sl
    have hsll : sl.length = xs.length := by rw [← hsl]; simp
    have hsB : sortB xs = sl.map fun l => ⟨l.toArray⟩ := by unfold sortB; rw [hsl]
    have hheap : ∀ k, k < W.heap.size → (grow (putRow encStr (Sort.ahead W n) g 0 sl.toArray) os).heap[k]? = (W.heap.modify g (onCells (putCells encStr 0 sl.toArray)))[k]? := fun k hk => by
      simp only [grow, putRow, mapBlock, Sort.ahead]
      rw [Array.getElem?_append_left (by simpa using hk)]
    refine ⟨rfl, ⟨(sortB xs).map Value.string, ⟨by rw [List.length_map, sortB_length, show kString.size = 1 from rfl, Nat.mul_one], .inr ⟨g, c, putCells encStr 0 sl.toArray cur, by rw [sortB_length], Nat.zero_le _, ?_, by rw [sortB_length]; exact hnc, hcm, ?_, ?_⟩⟩, ?_, fun k hk => h3 k hk⟩, ?_⟩
    · rw [hheap g hg, Array.getElem?_modify, if_pos rfl, hh]
      rfl
    · simp [putCells, hsz, show kString.size = 1 from rfl]
    · rw [show kString.size = 1 from rfl, Nat.mul_one, sortB_length, hsB]
      apply List.ext_getElem?
      intro j
      rw [List.getElem?_take]
      by_cases hj : j < xs.length
      · rw [if_pos hj]
        have hjc : j < cur.size := by omega
        simp only [putCells, Array.getElem?_toList, Array.getElem?_mapIdx, Array.getElem?_eq_getElem hjc, Option.map_some, Nat.zero_le, true_and, Nat.zero_add, List.size_toArray, hsll, hj, if_true, Nat.sub_zero, List.getElem?_map]
        rw [List.getElem?_eq_getElem (by omega)]
        simp [encStr, hsll, hj]
      · rw [if_neg hj, List.getElem?_eq_none (by simp [hsll]; omega)]
    · exact elems_of_strings _
    · refine ⟨rfl, rfl, rfl, by simp [grow, putRow, mapBlock, Sort.ahead], fun k hk hn => ?_⟩
      rw [hheap k hk, Array.getElem?_modify, if_neg (fun e => hn (by rw [e]; rfl))]
end Go.Proofs.YtfjndjbpgcggkaaDoor
