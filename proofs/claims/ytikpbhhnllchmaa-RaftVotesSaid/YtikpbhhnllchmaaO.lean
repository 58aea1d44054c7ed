/- Arguments that come in, opened to kinds: over any program. No condition. -/
import Derived.Test.YtikpbhhnllchmaaK
import Derived.ProofKit
import Derived.OpenShut
import Derived.SizedLaws
import Derived.Carry
set_option linter.unusedVariables false
set_option linter.unusedSimpArgs false
namespace Go.Proofs.Ytikpbhhnllchmaa
open Go.RowKit

/-- Whatever reads as data of type t says some value of the kind, of which 'ok' holds. -/
def Opens {α : Type} (P : Program) (t : TypeId) (K : Kind α) (ok : α → Prop) : Prop :=
  ∀ {H : Type} {enc : TypeId × Value → H} {W : World} {fuel : Nat} {cs : List Value} {d : DataW H} {ps : List MemPlace},
    DataW.trod enc P W 0 (fun _ => true) true fuel t cs = some (d, ps) → (∀ n ∈ d.weights P t, n ≤ reachBytes) → ∃ x : α, K.rep W (Old W) x cs ∧ ok x

def IntOk (k : IntKind) (x : Int) : Prop := (Lit.int k x).wf = true
theorem opens_int {P : Program} {t : TypeId} {k : IntKind} (ht : P.underlying t = some (.int k)) : Opens P t (kInt k) (IntOk k) := by
  intro H enc W fuel cs d ps h _
  obtain ⟨n, rfl, _, hw⟩ := DataW.trod_int ht h
  exact ⟨n, rfl, hw⟩
theorem opens_bool {P : Program} {t : TypeId} (ht : P.underlying t = some .bool) : Opens P t kBool (fun _ => True) := by
  intro H enc W fuel cs d ps h _
  obtain ⟨b, rfl, _⟩ := DataW.trod_bool ht h
  exact ⟨b, rfl, trivial⟩
theorem opens_string {P : Program} {t : TypeId} (ht : P.underlying t = some .string) : Opens P t kString (fun s => s.size ≤ reachBytes) := by
  intro H enc W fuel cs d ps h hw
  obtain ⟨s, rfl, hx, _⟩ := DataW.trod_string ht h
  injection hx with hd _
  subst hd
  refine ⟨s, rfl, ?_⟩
  have := hw s.data.toList.length (by simp [DataW.weights])
  simpa using this

theorem weights_all {H : Type} {P : Program} {e : TypeId} : ∀ {l : List (DataW H)} {x : DataW H} {n : Nat}, x ∈ l → n ∈ x.weights P e → n ∈ DataW.weightsAll P e l
  | d :: r, x, n, hx, hn => by
    simp only [DataW.weightsAll, List.mem_append]
    rcases List.mem_cons.1 hx with rfl | hx
    · exact .inl hn
    · exact .inr (weights_all hx hn)

theorem opens_slice {α : Type} {P : Program} {t e b : TypeId} {K : Kind α} {ok : α → Prop} (ht : P.underlying t = some (.slice e)) (hc : P.cellsOf e = K.size) (hb : P.bytesOf e = b) (hK : Opens P e K ok) :
    Opens P t (kSlice K) (fun xs => xs.length * b ≤ reachBytes ∧ ∀ x ∈ xs, ok x) := by
  intro H enc W fuel cs d ps h hw
  rcases DataW.trod_slice ht h with ⟨rfl, _⟩ | ⟨a, len, cap, elems, rest, n, rfl, rfl, hx, _, hl, hcm, hlen, hel, hsp, _⟩
  · exact ⟨[], ⟨none, 0, rfl, by simp, by omega, RS.nil⟩, by simp, by simp⟩
  · injection hx with hd _
    subst hd
    obtain ⟨hrl, _⟩ := hsp rfl
    have hwt : (elems.length + rest.length) * b ≤ reachBytes := by
      have := hw ((elems.length + rest.length) * P.bytesOf e) (by simp [DataW.weights, ht])
      rwa [hb] at this
    -- each element
    have each : ∀ i, i < len → ∃ x c, K.rep W (Old W) x c ∧ ok x ∧ c.length = K.size ∧ ∀ j, j < K.size → W.cell? (a.add (i * K.size + j)) = c[j]? := by
      intro i hi
      have h1 := hel i hi
      have hi' : i < elems.length := by omega
      rw [List.getElem?_eq_getElem hi'] at h1
      obtain ⟨c, hc1, hc2⟩ := Option.bind_eq_some_iff.1 h1
      obtain ⟨_, hcl, hcells⟩ := World.cells?_some hc1
      rw [hc] at hcl hcells
      obtain ⟨x, hr, hok⟩ := hK (d := elems[i].1) (ps := elems[i].2) hc2 (fun m hm => hw m (by
        simp only [DataW.weights, ht, List.mem_cons, List.mem_append]
        exact .inr (.inl (weights_all (List.mem_map.2 ⟨_, List.getElem_mem hi', rfl⟩) hm))))
      exact ⟨x, c, hr, hok, hcl, fun j hj => by have := hcells j hj; rw [add_add] at this; exact this⟩
    -- put together
    have main : ∀ m, m ≤ len → ∃ (xs : List α) (cs : List Value), xs.length = m ∧ (∀ x ∈ xs, ok x) ∧ Elems K W (Old W) xs cs ∧ ∀ j u, cs[j]? = some u → W.cell? (a.add j) = some u := by
      intro m
      induction m with
      | zero => exact fun _ => ⟨[], [], rfl, by simp, Elems.nil, by simp⟩
      | succ m ih =>
        intro hm
        obtain ⟨xs, cs, h1, h2, h3, h4⟩ := ih (by omega)
        obtain ⟨x, c, g1, g2, g3, g4⟩ := each m (by omega)
        refine ⟨xs ++ [x], cs ++ c, by simp [h1], fun y hy => ?_, h3.append (Elems.single g1), fun j u hj => ?_⟩
        · rcases List.mem_append.1 hy with hy | hy
          · exact h2 y hy
          · rw [List.mem_singleton] at hy; subst hy; exact g2
        · have hcl : cs.length = m * K.size := by rw [h3.1, h1]
          rcases Nat.lt_or_ge j cs.length with hj' | hj'
          · rw [List.getElem?_append_left hj'] at hj; exact h4 j u hj
          · rw [List.getElem?_append_right hj'] at hj
            have hjl : j - cs.length < K.size := by
              have := (List.getElem?_eq_some_iff.1 hj).1
              omega
            have := g4 (j - cs.length) hjl
            rw [hj] at this
            rw [← this]
            congr 2
            omega
    obtain ⟨xs, cs, h1, h2, h3, h4⟩ := main len (Nat.le_refl _)
    subst h1
    refine ⟨xs, ⟨some a, cap, rfl, hl, by simpa [maxLen] using hcm, rfl, cs, h3, fun hn => ⟨a, rfl, ?_, h4⟩⟩, ?_, h2⟩
    · have hp := K.pos
      have h0 : 0 < cs.length := by rw [h3.1]; exact Nat.mul_pos hn hp
      have := World.block_lt_of_cell? W _ (h4 0 _ (List.getElem?_eq_getElem h0))
      rwa [block_add] at this
    · refine Nat.le_trans (Nat.mul_le_mul_right _ ?_) hwt
      omega

/-- A struct's fields. -/
theorem open_fields {H : Type} {enc : TypeId × Value → H} {P : Program} {W : World} {fuel : Nat} {t : TypeId} {cs : List Value} {d : DataW H} {ps : List MemPlace} {fs : Array Field} (ht : P.underlying t = some (.struct fs))
    (h : DataW.trod enc P W 0 (fun _ => true) true fuel t cs = some (d, ps)) (hw : ∀ n ∈ d.weights P t, n ≤ reachBytes) :
    cs.length = P.cellsOf t ∧ ∀ (i : Nat) (f : Field), fs[i]? = some f → ∀ {α : Type} {K : Kind α} {ok : α → Prop}, Opens P f.type K ok → ∃ x, K.rep W (Old W) x ((cs.drop f.offset).take (P.cellsOf f.type)) ∧ ok x := by
  obtain ⟨xs, n, _, hx, hlen, hxl, hf⟩ := DataW.trod_struct ht h
  injection hx with hd _
  subst hd
  refine ⟨hlen, fun i f hi α K ok hK => ?_⟩
  have hil : i < fs.size := (Array.getElem?_eq_some_iff.1 hi).1
  have h1 := hf i f hi
  rw [List.getElem?_eq_getElem (by omega)] at h1
  refine hK (d := (xs[i]'(by omega)).1) (ps := (xs[i]'(by omega)).2) h1 (fun m hm => hw m ?_)
  simp only [DataW.weights, ht]
  refine DataW.weights_mem_each (j := i) (t := f.type) (d := (xs[i]'(by omega)).1) ?_ ?_ m hm
  · rw [List.getElem?_map, Array.getElem?_toList, hi]; rfl
  · rw [List.getElem?_map, List.getElem?_eq_getElem (by omega)]; rfl
end Go.Proofs.Ytikpbhhnllchmaa
