/- A text's bytes appended to an owned row. Over any program. -/
import Derived.Test.YtfjndjbpgcggkaaDoorL
import Derived.Lib.AppendStr
import Derived.Laws.Append
set_option linter.unusedVariables false
set_option linter.unusedSimpArgs false
namespace Go.Proofs.YtfjndjbpgcggkaaDoor
open Go.RowKit

/-- A text's bytes as numbers. -/
def numsOf (s : ByteArray) : List Int := s.data.toList.map fun b => (b.toNat : Int)
theorem numsOf_length (s : ByteArray) : (numsOf s).length = s.size := by simp [numsOf]
theorem strCells_nums (s : ByteArray) : Lib.strCells s = (numsOf s).map (Value.int .u8) := by
  unfold Lib.strCells numsOf
  rw [List.map_map]
  rfl
theorem elems_nums {W : World} {F : Foot} (xs : List Int) : Elems (kInt .u8) W F xs (xs.map (Value.int .u8)) := by
  refine ⟨by rw [List.length_map]; show _ = xs.length * 1; omega, fun j x hx => ?_⟩
  have h1 : (kInt .u8).size = 1 := rfl
  rw [h1, Nat.mul_one]
  obtain ⟨hj, he⟩ := List.getElem?_eq_some_iff.1 hx
  show ((xs.map (Value.int .u8)).drop j).take 1 = [.int .u8 x]
  rw [List.drop_eq_getElem_cons (by rw [List.length_map]; exact hj), List.getElem_map, he]
  rfl

section
variable {P : Program} {t u e : TypeId}
theorem run_append_str (ty : TypeId) (ht : P.underlying t = some (.slice e)) (hu : P.underlying u = some .string) (hi : (P.info? e).map (fun i => (i.zero, i.size, i.bytes)) = some (some (.int .u8 0), 1, 1))
    {W : World} {F : Foot} {v : Value} {xs : List Int} (HO : OwnS (kInt .u8) e W F v xs) (s : ByteArray) (hb : xs.length + s.size ≤ 140737488355328) :
    ∃ v' W', (Builtin.append_ #[t, u] ty #[v, .string s]).run P W = .ok v' W' ∧ Appended (kInt .u8) e W W' F NoF v v' (xs ++ numsOf s) := by
  obtain ⟨i, hi0, hzz⟩ := Option.map_eq_some_iff.1 hi
  simp only [Prod.mk.injEq] at hzz
  obtain ⟨hz, hsz, hby⟩ := hzz
  obtain ⟨cs, h1, h2, h3⟩ := HO
  have h1' : W.ownsRow 0 e 1 v xs.length cs := h1
  obtain ⟨v', W', hr, g1, g2, g3⟩ := Lib.run_append_own_string (P := P) W 0 t u ty e i ht hu hi0 hz hsz hby v xs.length cs h1' s (by simp only [maxLen]; omega) hb (Nat.zero_le _)
  have hlies : v'.ownBlock = v.ownBlock ∨ v'.ownBlock = some W.heap.size := by
    rcases h1'.2 with ⟨rfl, hn⟩ | ⟨g, cap, cur, rfl, hbg, hg, hnc, hcm, hcs, htake⟩
    · by_cases hm : s.size = 0
      · exact .inl (by rw [g3.2 ⟨rfl, hm⟩])
      · have hr2 := run_append_nil_string (P := P) W t u ty e i (.int .u8 0) ht hu hi0 hz s (by omega) (by omega) (by rw [hby]; omega)
        rw [hr2] at hr
        injection hr with hr _
        rw [← hr]
        exact .inr rfl
    · by_cases hroom : xs.length + s.size ≤ cap
      · have hcsz : cur.size = cap := by simpa using hcs
        have hr2 := Lib.run_append_room_string (P := P) W t u ty e i ht hu hi0 hsz g xs.length cap cur hg s hroom (by omega)
        rw [hr2] at hr
        injection hr with hr _
        rw [← hr]
        exact .inl rfl
      · have hxl : cs.length = xs.length := by simpa using h1'.1
        have hr2 := Lib.run_append_grow_string (P := P) W t u ty e i (.int .u8 0) ht hu hi0 hz ⟨g, 0, none⟩ xs.length cap cs (by rw [hsz]; simpa using hxl) (h1'.cells (g := g) rfl) s (by omega) (by omega) (by rw [hby]; exact growslice_fits (by omega) (by omega))
        rw [hr2] at hr
        injection hr with hr _
        rw [← hr]
        exact .inr rfl
  have lies : ∀ k, v'.ownBlock = some k → v.ownBlock = some k ∨ (W.heap.size ≤ k ∧ k < W'.heap.size) := by
    intro k hk
    rcases hlies with g | g
    · exact .inl (g ▸ hk)
    · rw [g] at hk
      obtain rfl : W.heap.size = k := by injection hk
      exact .inr ⟨Nat.le_refl _, (g1.lt _ g).2⟩
  refine ⟨v', W', hr, ⟨cs ++ Lib.strCells s, ?_, ?_, fun k hk => ?_⟩, g2, lies⟩
  · rw [List.length_append, numsOf_length]; exact g1
  · refine Elems.append ?_ ?_
    · exact ⟨h2.1, fun j x hx => flat_int _ _ _ _ _ _ _ (h2.2 j x hx)⟩
    · rw [strCells_nums]; exact elems_nums _
  · rcases lies k hk with hl | hl
    · exact .inl (h3 k hl)
    · exact .inr (.inr hl)
variable {ops : Array Oper} {rest : List Oper} {o : Oper} {a : Act} {Q : Exit → Act → World → Prop}
theorem wpList_append_str (hgd : o.guard = none) (sl x : Operand) (ho : o.op = .call { callee := .builtin .append, args := #[sl, x], argTypes := #[t, u] }) (ht : P.underlying t = some (.slice e)) (hu : P.underlying u = some .string) (hi : (P.info? e).map (fun i => (i.zero, i.size, i.bytes)) = some (some (.int .u8 0), 1, 1))
    {W : World} {F : Foot} {v : Value} {xs : List Int} {s : ByteArray} (hs : a.eval sl = v) (hx : a.eval x = .string s) (HO : OwnS (kInt .u8) e W F v xs) (hb : xs.length + s.size ≤ 140737488355328)
    (h : ∀ v' W', Appended (kInt .u8) e W W' F NoF v v' (xs ++ numsOf s) → wpList P ops Q rest (a.put o.dst v') W') : wpList P ops Q (o :: rest) a W := by
  refine wpList_plain hgd fun K hK => ?_
  obtain ⟨v', W', hr, hA⟩ := run_append_str o.type ht hu hi HO s hb
  unfold Oper.wp execOp
  simp only [ho, resolve, invoke, builtin, Sem.run_bind, Sem.run_pure, Result.andThen_ok, List.map_toArray, List.map_cons, List.map_nil, hs, hx, hr]
  exact hK _ _ (h v' W' hA)
end
end Go.Proofs.YtfjndjbpgcggkaaDoor
