/- The law GenEvents: its parts. -/
import Derived.Test.YtngmipppgnlkdaaDoorDH4
set_option linter.unusedVariables false
set_option linter.unusedSimpArgs false
namespace Go.Proofs.YtngmipppgnlkdaaDoor
open Go.RowKit

section
variable {P : Program} {ops : Array Oper} {rest : List Oper} {o : Oper} {a : Act} {w : World} {Q : Exit → Act → World → Prop}
/-- A struct is read whole, wherever it lies. -/
theorem wpList_load_at (ty : TypeId) (x : Operand) (p : Addr) (cs : Array Value) (d : TypeDesc) (hgd : o.guard = none) (ho : o.op = .load ty x) (hx : a.eval x = .pointer (some p))
    (hc : ∀ (j : Nat) v, cs.toList[j]? = some v → w.cell? (p.add j) = some v) (hu : P.underlying ty = some d) (hd : (match d with | .struct _ | .array _ _ => true | _ => false) = true) (hi : (P.info? ty).map (·.size) = some cs.size)
    (h : wpList P ops Q rest (a.put o.dst (.agg cs)) w) : wpList P ops Q (o :: rest) a w :=
  wpList_plain hgd fun _ hK => by
    have hl : (loadCells p cs.toList.length).run P w = .ok cs.toList.toArray w := run_loadCells_list (P := P) w p cs.toList hc
    have hv : (loadVar ty p).run P w = .ok (.agg cs) w := by
      cases hq : P.info? ty with
      | none => simp [hq] at hi
      | some i =>
        have hs : i.size = cs.size := by simpa [hq] using hi
        have hagg : (isAgg ty).run P w = .ok true w := by
          unfold isAgg
          rw [Sem.run_bind, run_underlying hu w]
          cases d <;> simp_all
        simp only [Array.length_toList, Array.toArray_toList] at hl
        simp [loadVar, Sem.run_bind, hagg, sizeOf, typeInfo, hq, hs, hl]
    unfold Oper.wp execOp
    simp only [ho, hx, Instr.loadAt, Instr.sureAddr, Sem.run_bind, Sem.run_pure, Result.andThen_ok, hv]
    exact hK _ _ h
end

/-- What the law looks at. -/
def EvGood (x : Event) : Prop := x.Fault = [] ∧ x.Cmd.Records.length ≤ 1 ∧ (x.Kind = 7 → ∃ (node tm : Int) (kk i : Nat), x = subOf node tm kk i ∧ 0 ≤ tm ∧ tm ≤ 1000 ∧ kk < 4 ∧ i < 2000)
theorem evOf_good {k : Int} (node msg what : Int) (h : k ≠ 7) : EvGood (evOf k node msg what) := ⟨rfl, Nat.zero_le _, fun e => absurd e h⟩
theorem otherEv_good (st n : Int) : EvGood (otherEv st n).1 := by
  unfold otherEv
  dsimp only
  repeat' split
  all_goals exact evOf_good _ _ _ (by decide)
theorem submitEv_good (st n : Int) (i : Nat) (hi : i < 2000) : EvGood (submitEv st n i).1 := by
  refine ⟨rfl, Nat.le_refl _, fun _ => ⟨_, _, _, i, rfl, lotVal_nonneg _ _, ?_, ?_, hi⟩⟩
  · have := lotVal_lt (lotStep (lotStep st)) 50 (by omega); omega
  · have := lotVal_lt (lotStep (lotStep (lotStep st))) 4 (by omega)
    have := lotVal_nonneg (lotStep (lotStep (lotStep st))) 4
    omega
theorem genEv_good (st n : Int) (i : Nat) (hi : i < 2000) : EvGood (genEv st n i).1 := by
  unfold genEv
  dsimp only
  repeat' split
  all_goals first | exact evOf_good _ _ _ (by decide) | exact submitEv_good _ _ _ hi | exact otherEv_good _ _
theorem genUpto_good (st n : Int) : ∀ k, k ≤ 2000 → ∀ x ∈ (genUpto st n k).1, EvGood x
  | 0, _, x, hx => by cases hx
  | k + 1, hk, x, hx => by
    rcases List.mem_append.1 hx with h | h
    · exact genUpto_good st n k (by omega) x h
    · rw [List.mem_singleton.1 h]
      exact genEv_good _ _ _ (by omega)
theorem dec_len_step (u : Nat) : (Lib.decDigits u).length ≤ (Lib.decDigits (u / 10)).length + 1 := by
  rw [Lib.decDigits]
  split
  · simp
  · simp
theorem dec_len4 (u : Nat) (h : u < 10000) : (dec u).size ≤ 4 := by
  have h1 := dec_len_step u
  have h2 := dec_len_step (u / 10)
  have h3 := dec_len_step (u / 10 / 10)
  have h4 := Lib.decDigits_one (i := u / 10 / 10 / 10) (by omega)
  rw [h4] at h3
  simp only [List.length_singleton] at h3
  have : (dec u).size = (Lib.decDigits u).length := by simp [dec, ByteArray.size]
  omega
theorem key_size (k : Nat) (h : k < 10000) : 1 ≤ (key k).size ∧ (key k).size ≤ 200 := by
  have := dec_len4 k h
  have e : (key k).size = 1 + (dec k).size := by simp [key, ByteArray.size_append]; rfl
  omega
theorem val_size (k : Nat) (h : k < 10000) : (val k).size ≤ 2000 := by
  have := dec_len4 k h
  have e : (val k).size = 1 + (dec k).size := by simp [val, ByteArray.size_append]; rfl
  omega
/-- The table lies below. -/
theorem PowTab.below {w : World} (h : PowTab w) (hg : Tryd.prog.globalNamed "internal/strconv.uint64pow10" = some 2) (hs : 2 < w.heap.size) : PowBelow w.heap.size w := by
  intro w' hb
  have h1 : w.var? Tryd.prog "internal/strconv.uint64pow10" = _ := h
  show w'.var? Tryd.prog "internal/strconv.uint64pow10" = _
  rw [← h1]
  unfold World.var?
  rw [hg]
  simp only [Option.bind_some, hb.block 2 hs]
end Go.Proofs.YtngmipppgnlkdaaDoor
