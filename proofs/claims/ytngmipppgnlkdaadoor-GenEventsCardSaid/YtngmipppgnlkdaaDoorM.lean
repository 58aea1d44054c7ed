/- An element of an owned row is deleted: over any program. No condition. -/
import Derived.Test.YtngmipppgnlkdaaDoorL
set_option linter.unusedVariables false
set_option linter.unusedSimpArgs false
namespace Go.Proofs.YtngmipppgnlkdaaDoor
open Go.RowKit

theorem heap_setCells_list {b : Nat} {e : TypeId} : ∀ (vs : List Value) (o : Nat) (W : World) (cur : Array Value), W.heap[b]? = some (.cells cur e (0, 0)) → o + vs.length ≤ cur.size →
    ∃ cur', (W.setCells b o vs).heap[b]? = some (.cells cur' e (0, 0)) ∧ cur'.toList = cur.toList.take o ++ vs ++ cur.toList.drop (o + vs.length)
  | [], o, W, cur, h, hl => ⟨cur, h, by simp⟩
  | v :: r, o, W, cur, h, hl => by
    simp only [List.length_cons] at hl
    obtain ⟨cur', h2, h3⟩ := heap_setCells_list r (o + 1) _ _ (heap_setCell_same W b o cur e v h) (by simp; omega)
    refine ⟨cur', h2, ?_⟩
    rw [h3]
    have hlt : o < cur.toList.length := by simp; omega
    simp only [Array.toList_setIfInBounds]
    rw [List.set_eq_take_append_cons_drop, if_pos hlt]
    have h1 : (cur.toList.take o).length = o := by rw [List.length_take]; omega
    rw [List.take_append, List.drop_append, h1, List.take_of_length_le (by omega), List.drop_of_length_le (l := List.take o cur.toList) (by omega), show o + 1 - o = 1 by omega, show o + 1 + r.length - o = r.length + 1 by omega]
    simp only [List.take_succ_cons, List.take_zero, List.drop_succ_cons, List.nil_append, List.drop_drop, List.append_assoc, List.singleton_append, List.length_cons]
    rw [show o + 1 + r.length = o + (r.length + 1) by omega]
theorem size_setCells_ (b : Nat) : ∀ (vs : List Value) (o : Nat) (w : World), (w.setCells b o vs).heap.size = w.heap.size
  | [], _, _ => rfl
  | _ :: r, o, w => (size_setCells_ b r (o + 1) _).trans (World.size_setCell ..)
theorem keeps_setCells {S : Foot} (b : Nat) : ∀ (vs : List Value) (o : Nat) (w : World), S b → Keeps S w (w.setCells b o vs)
  | [], _, w, _ => Keeps.refl S w
  | v :: r, o, w, h => ((Keeps.refl S w).setCell (p := ⟨b, o, none⟩) (fun _ => h) v).trans (keeps_setCells b r (o + 1) _ h)

section
variable {α : Type} {K : Kind α} {e : TypeId} {W : World} {F : Foot} {xs : List α} {g n c i : Nat}

/-- The cells behind element i are moved by one element, those of the last are written. -/
theorem OwnS.erased (h : OwnS K e W F (.slice (some ⟨g, 0, none⟩) n c) xs) (hi : i < n) {tail zs : List Value} (ht : ∀ j, tail[j]? = (if j < (n - i - 1) * K.size then (W.cell? ⟨g, (i + 1) * K.size + j, none⟩) else none)) (hz : zs.length = K.size) :
    OwnS K e ((W.setCells g (i * K.size) tail).setCells g ((n - 1) * K.size) zs) F (.slice (some ⟨g, 0, none⟩) (n - 1) c) (xs.eraseIdx i) ∧ Keeps (fun k => k = g) W ((W.setCells g (i * K.size) tail).setCells g ((n - 1) * K.size) zs) := by
  have hkeeps : Keeps (fun k => k = g) W ((W.setCells g (i * K.size) tail).setCells g ((n - 1) * K.size) zs) := (keeps_setCells (S := fun k => k = g) g _ _ _ rfl).trans (keeps_setCells (S := fun k => k = g) g _ _ _ rfl)
  refine ⟨?_, hkeeps⟩
  obtain ⟨cs, ⟨h1, h2⟩, h3, h4⟩ := h
  rcases h2 with ⟨hbad, _⟩ | ⟨g', cap, cur, hv, _, hh, hn, hc, hsz, htk⟩
  · cases hbad
  simp only [Value.slice.injEq, Option.some.injEq, Addr.mk.injEq, and_true] at hv
  obtain ⟨rfl, rfl, rfl⟩ := hv
  have hK := K.pos
  have hmul : ∀ a b : Nat, a ≤ b → a * K.size ≤ b * K.size := fun a b h => Nat.mul_le_mul_right _ h
  have hs1 : (xs.length - 1) * K.size + K.size = xs.length * K.size := by rw [← Nat.succ_mul]; congr 1; omega
  have hs2 : (i + 1) * K.size = i * K.size + K.size := Nat.succ_mul ..
  have hs3 : (xs.length - i - 1) * K.size + (i + 1) * K.size = xs.length * K.size := by rw [← Nat.add_mul]; congr 1; omega
  have hs4 := hmul _ _ hn
  have htail : tail = cs.drop ((i + 1) * K.size) := by
    apply List.ext_getElem?
    intro j
    rw [ht, List.getElem?_drop]
    by_cases hj : j < (xs.length - i - 1) * K.size
    · rw [if_pos hj, ← htk, List.getElem?_take, if_pos (by omega)]
      simp [World.cell?, hh, Array.getElem?_toList]
    · rw [if_neg hj, List.getElem?_eq_none (by omega)]
  have htl : tail.length = (xs.length - i - 1) * K.size := by rw [htail, List.length_drop, h1]; omega
  obtain ⟨cur1, hh1, hl1⟩ := heap_setCells_list tail (i * K.size) W cur hh (by omega)
  have hsz1 : cur1.size = cur.size := by have := congrArg List.length hl1; simp at this; omega
  obtain ⟨cur2, hh2, hl2⟩ := heap_setCells_list zs ((xs.length - 1) * K.size) _ cur1 hh1 (by omega)
  have hsz2 : cur2.size = cur1.size := by have := congrArg List.length hl2; simp at this; omega
  have hel : (xs.eraseIdx i).length = xs.length - 1 := List.length_eraseIdx_of_lt hi
  refine ⟨cs.take (i * K.size) ++ cs.drop ((i + 1) * K.size), ⟨?_, .inr ⟨g, c, cur2, ?_, Nat.zero_le _, hh2, by omega, hc, by omega, ?_⟩⟩, ?_, h4⟩
  · rw [hel, List.length_append, List.length_take, List.length_drop, h1]; omega
  · rw [hel]
  · rw [hel, hl2, List.append_assoc, List.take_append_of_le_length (by rw [List.length_take]; simp; omega), List.take_take, Nat.min_self, hl1, List.append_assoc, List.take_append, List.length_take, List.take_take]
    simp only [Array.length_toList]
    rw [Nat.min_eq_right (by omega), Nat.min_eq_left (a := i * K.size) (by omega), List.take_append, List.take_of_length_le (l := tail) (by omega), htl, show (xs.length - 1) * K.size - i * K.size - (xs.length - i - 1) * K.size = 0 by omega, List.take_zero, List.append_nil, htail, ← htk, List.take_take, Nat.min_eq_left (by omega)]
  · rw [List.eraseIdx_eq_take_drop_succ]
    refine ((h3.take_ i).append (h3.drop_ (i + 1))).keep fun k hk hlt => hkeeps.block k hlt fun e => hk.2 (by rw [e]; rfl)
end

section
variable {P : Program} {t e size bytes : Nat}
theorem run_clear_S (E : ElemT P t e size bytes) (ty : TypeId) (W : World) (g o : Nat) (h0 : ∀ i z, P.info? e = some i → i.zero = some z → ∀ u ∈ z.cells, u.oneCell' = true) (h1 : ∀ j, j < size → (W.cell? ⟨g, o + j, none⟩).isSome = true) (h2 : ∀ j, j < size → W.frozen? ⟨g, o + j, none⟩ = false) :
    ∃ zs : List Value, zs.length = size ∧ ∀ c, (Builtin.clear_ #[t] ty #[.slice (some ⟨g, o, none⟩) 1 c]).run P W = .ok (.tuple #[]) (W.setCells g o zs) := by
  obtain ⟨i, z, hi, hz, hs, hb, hzs⟩ := E.info
  have hl : (Builtin.zeroCells z.cells 1).toList.length = size := by simp [Builtin.zeroCells, hzs]
  refine ⟨(Builtin.zeroCells z.cells 1).toList, hl, fun c => ?_⟩
  have hst := run_storeCells_cells (P := P) g o (Builtin.zeroCells z.cells 1).toList 0 W (by simpa [hl] using h1) (by simpa [hl] using h2) (by
    intro u hu
    simp only [Builtin.zeroCells, Array.mem_toList_iff, Array.mem_map, Array.mem_range] at hu
    obtain ⟨j, hj, rfl⟩ := hu
    have hm : j % z.cells.size < z.cells.size := Nat.mod_lt _ (by omega)
    rw [getElem!_pos z.cells _ hm]
    exact h0 i z hi hz _ (Array.getElem_mem hm))
  simp only [Nat.add_zero] at hst
  simp [Builtin.clear_, run_underlying E.ht, zeroValue, typeInfo, hi, hz, hst]

theorem cut_lo_some (E : ElemT P t e size bytes) (kl : IntKind) (ad : Addr) (n c m : Nat) (hm : m ≤ n) :
    ∃ ad' : Addr, (∀ W : World, (Instr.slice t (.slice (some ad) n c) (some (.int kl (m : Int))) none none).run P W = .ok (.slice (some ad') (n - m) (c - m)) W) ∧ (m < c → ad' = ad.add (m * size)) := by
  obtain ⟨i, z, hi, hz, hs, hb, hzs⟩ := E.info
  refine ⟨if c = m then ad else ad.add (m * size), fun W => ?_, fun h => if_neg (by omega)⟩
  have hel : P.elem t = e := by simp [Program.elem, E.ht]
  have hu : P.underlying t = some (.slice (P.elem t)) := by rw [hel]; exact E.ht
  rw [run_slice_l W t (some ad) n c hu kl (m : Int) (Int.natCast_nonneg _) (by omega), hel]
  by_cases h : c = m <;> simp [sizeOf, typeInfo, hi, hs, sliced, Result.andThen, h]

variable {α : Type} {K : Kind α} {ops : Array Oper} {rest : List Oper} {o : Oper} {a : Act} {Q : Exit → Act → World → Prop}
/-- append(s[:i], s[i+1:]...): what lies behind is moved. -/
theorem wpList_shift (hgd : o.guard = none) (E : ElemT P t e K.size bytes) (s x : Operand) (ho : o.op = .call { callee := .builtin .append, args := #[s, x], argTypes := #[t, t] }) {W : World} {F : Foot} {l : List α} {g n c i m d : Nat} {ad : Addr}
    (hs : a.eval s = .slice (some ⟨g, 0, none⟩) i c) (hx : a.eval x = .slice (some ad) m d)
    (HO : OwnS K e W F (.slice (some ⟨g, 0, none⟩) n c) l) (hin : i + 1 + m = n) (hnc : n ≤ c) (had : 0 < m → ad = (⟨g, 0, none⟩ : Addr).add ((i + 1) * K.size))
    (h : ∀ tail : List Value, (∀ j, tail[j]? = (if j < (n - i - 1) * K.size then W.cell? ⟨g, (i + 1) * K.size + j, none⟩ else none)) → wpList P ops Q rest (a.put o.dst (.slice (some ⟨g, 0, none⟩) (i + m) c)) (W.setCells g (i * K.size) tail)) : wpList P ops Q (o :: rest) a W :=
  wpList_plain hgd fun _ hK => by
    obtain ⟨inf, z, hi, hz, hsz, hby, hzs⟩ := E.info
    obtain ⟨cs, ⟨h1, h2⟩, h3, h4⟩ := HO
    rcases h2 with ⟨hbad, _⟩ | ⟨g', cap, cur, hv, _, hh, hn, hc, hcur, htk⟩
    · cases hbad
    simp only [Value.slice.injEq, Option.some.injEq, Addr.mk.injEq, and_true] at hv
    obtain ⟨rfl, rfl, rfl⟩ := hv
    have hcell : ∀ j, W.cell? ⟨g, j, none⟩ = cur[j]? := fun j => cell_of_row W g j _ _ _ hh
    have hcu : ∀ j, j < l.length * K.size → cs[j]? = cur[j]? := fun j hj => by
      rw [← htk, List.getElem?_take, if_pos hj, Array.getElem?_toList]
    have hs2 : (i + 1) * K.size = i * K.size + K.size := Nat.succ_mul ..
    have hs3 : (i + 1) * K.size + m * K.size = l.length * K.size := by rw [← Nat.add_mul, hin]
    have hm : (l.length - i - 1) = m := by omega
    have hcl := Nat.mul_le_mul_right K.size hn
    have hcsl := h1
    have h1l : ∀ u ∈ cs.drop ((i + 1) * K.size), u.oneCell' = true := fun u hu => h3.one_ u (List.mem_of_mem_drop hu)
    have hr := run_append_room_cells (P := P) W t o.type e inf E.ht hi g 0 i c ad m d (cs.drop ((i + 1) * K.size)) (by rw [List.length_drop, hsz, h1]; omega) (fun j u hu => by
        rw [List.getElem?_drop] at hu
        have hj := (List.getElem?_eq_some_iff.1 hu).1
        have hmp : 0 < m := by
          rcases Nat.eq_zero_or_pos m with h0 | h0
          · subst h0; omega
          · exact h0
        rw [had hmp, add_add, Addr.add_lit, Nat.zero_add, hcell, ← hcu _ (by omega)]
        exact hu) h1l (by omega) (fun j hj => by
        rw [List.length_drop] at hj
        rw [hcell, Array.getElem?_eq_getElem (by rw [hsz]; omega)]
        rfl) (fun j hj => frozen_of_row W g _ _ _ hh)
    rw [hsz, Nat.zero_add] at hr
    unfold Oper.wp execOp
    simp only [ho, resolve, invoke, builtin, Sem.run_bind, Sem.run_pure, Result.andThen_ok, List.map_toArray, List.map_cons, List.map_nil, hs, hx, hr]
    refine hK _ _ (h _ fun j => ?_)
    rw [List.getElem?_drop, hm]
    by_cases hj : j < m * K.size
    · rw [if_pos hj, hcell, hcu _ (by omega)]
    · rw [if_neg hj, List.getElem?_eq_none (by omega)]

theorem wpList_clear_S (hgd : o.guard = none) (E : ElemT P t e size bytes) (s : Operand) (ho : o.op = .call { callee := .builtin .clear, args := #[s], argTypes := #[t] }) {W : World} {g o' c : Nat} (hs : a.eval s = .slice (some ⟨g, o', none⟩) 1 c)
    (h0 : ∀ i z, P.info? e = some i → i.zero = some z → ∀ u ∈ z.cells, u.oneCell' = true) (h1 : ∀ j, j < size → (W.cell? ⟨g, o' + j, none⟩).isSome = true) (h2 : ∀ j, j < size → W.frozen? ⟨g, o' + j, none⟩ = false)
    (h : ∀ zs : List Value, zs.length = size → wpList P ops Q rest (a.put o.dst (.tuple #[])) (W.setCells g o' zs)) : wpList P ops Q (o :: rest) a W :=
  wpList_plain hgd fun _ hK => by
    obtain ⟨zs, hl, hr⟩ := run_clear_S E o.type W g o' h0 h1 h2
    unfold Oper.wp execOp
    simp only [ho, resolve, invoke, builtin, Sem.run_bind, Sem.run_pure, Result.andThen_ok, List.map_toArray, List.map_cons, List.map_nil, hs, hr c]
    exact hK _ _ (h zs hl)
end
end Go.Proofs.YtngmipppgnlkdaaDoor
