/- A queue of ints: a slice that is cut at its head and appended to at its end. Over any program. -/
import Derived.Test.YtfjndjbpgcggkaaDoorL
import Derived.Laws.IdiomCopy
import Derived.Laws.OwnMore
set_option linter.unusedVariables false
set_option linter.unusedSimpArgs false
namespace Go.Proofs.YtfjndjbpgcggkaaDoor
open Go.RowKit

theorem setCells_block (g : Nat) {e : TypeId} : ∀ (vs : List Value) (o : Nat) (W : World) (cur : Array Value), W.heap[g]? = some (.cells cur e (0, 0)) → o + vs.length ≤ cur.size →
    ∃ cur' : Array Value, (W.setCells g o vs).heap[g]? = some (.cells cur' e (0, 0)) ∧ cur'.size = cur.size ∧ (∀ j, j < o → cur'[j]? = cur[j]?) ∧ (∀ j u, vs[j]? = some u → cur'[o + j]? = some u)
  | [], o, W, cur, h, _ => ⟨cur, h, rfl, fun _ _ => rfl, fun j u hu => by simp at hu⟩
  | v :: vs, o, W, cur, h, hs => by
    have h1 := heap_setCell_same W g o cur e v h
    obtain ⟨cur', g1, g2, g3, g4⟩ := setCells_block g vs (o + 1) (W.setCell ⟨g, o, none⟩ v) (cur.setIfInBounds o v) h1 (by simp at hs ⊢; omega)
    refine ⟨cur', g1, by simpa using g2, fun j hj => ?_, fun j u hu => ?_⟩
    · rw [g3 j (by omega), Array.getElem?_setIfInBounds_ne (by omega)]
    · cases j with
      | zero =>
        simp at hu
        subst hu
        have ho : o < cur.size := by simp at hs; omega
        rw [Nat.add_zero, g3 o (by omega)]
        simp [ho]
      | succ j =>
        have := g4 j u (by simpa using hu)
        rw [show o + (j + 1) = o + 1 + j by omega]
        exact this
theorem setCells_other (g : Nat) : ∀ (vs : List Value) (o : Nat) (W : World) (k : Nat), k ≠ g → (W.setCells g o vs).heap[k]? = W.heap[k]?
  | [], o, W, k, _ => rfl
  | v :: vs, o, W, k, h => (setCells_other g vs (o + 1) (W.setCell ⟨g, o, none⟩ v) k h).trans (Below.heap_setCell _ _ _ _ h)
theorem setCells_rest (g : Nat) : ∀ (vs : List Value) (o : Nat) (W : World), (W.setCells g o vs).os = W.os ∧ (W.setCells g o vs).tape = W.tape ∧ (W.setCells g o vs).output = W.output ∧ (W.setCells g o vs).heap.size = W.heap.size
  | [], o, W => ⟨rfl, rfl, rfl, rfl⟩
  | v :: vs, o, W => by
    obtain ⟨h1, h2, h3, h4⟩ := setCells_rest g vs (o + 1) (W.setCell ⟨g, o, none⟩ v)
    exact ⟨h1, h2, h3, h4.trans (by simp)⟩
theorem keeps_setCells (g : Nat) (vs : List Value) (o : Nat) (W : World) : Keeps (fun k => some g = some k) W (W.setCells g o vs) := by
  obtain ⟨h1, h2, h3, h4⟩ := setCells_rest g vs o W
  exact ⟨h1, h2, h3, by omega, fun k _ hk => setCells_other g vs o W k (fun e => hk (by rw [e]))⟩

def Queue (e : TypeId) (W : World) (F : Foot) (v : Value) (fs : List Int) : Prop :=
  (v = .slice none 0 0 ∧ fs = []) ∨
  ∃ g off cap cur, v = .slice (some ⟨g, off, none⟩) fs.length cap ∧ F g ∧ W.heap[g]? = some (.cells cur e (0, 0)) ∧ fs.length ≤ cap ∧ cap ≤ 9223372036854775807 ∧ off + cap ≤ cur.size ∧ ∀ j x, fs[j]? = some x → cur[off + j]? = some (.int .i64 x)
section
variable {e : TypeId} {W W' : World} {F G : Foot} {v : Value} {fs : List Int}
theorem Queue.nil : Queue e W F (.slice none 0 0) [] := .inl ⟨rfl, rfl⟩
theorem Queue.mono (h : Queue e W F v fs) (hG : ∀ k, F k → G k) : Queue e W G v fs := by
  rcases h with h | ⟨g, off, cap, cur, h1, h2, h⟩
  · exact .inl h
  · exact .inr ⟨g, off, cap, cur, h1, hG g h2, h⟩
theorem Queue.keep (h : Queue e W F v fs) (hk : ∀ k, F k → k < W.heap.size → W'.heap[k]? = W.heap[k]?) : Queue e W' F v fs := by
  rcases h with h | ⟨g, off, cap, cur, h1, h2, h3, h⟩
  · exact .inl h
  · exact .inr ⟨g, off, cap, cur, h1, h2, (hk g h2 (Array.getElem?_eq_some_iff.1 h3).1).trans h3, h⟩
theorem Queue.bound (h : Queue e W F v fs) : Queue e W (fun k => F k ∧ k < W.heap.size) v fs := by
  rcases h with h | ⟨g, off, cap, cur, h1, h2, h3, h⟩
  · exact .inl h
  · exact .inr ⟨g, off, cap, cur, h1, ⟨h2, (Array.getElem?_eq_some_iff.1 h3).1⟩, h3, h⟩
theorem Queue.lt (h : Queue e W F v fs) : ∀ k, v.ownBlock = some k → F k ∧ k < W.heap.size := by
  rcases h with ⟨rfl, _⟩ | ⟨g, off, cap, cur, rfl, h2, h3, h⟩
  · intro k hk; simp [Value.ownBlock] at hk
  · intro k hk
    obtain rfl : g = k := by simpa [Value.ownBlock] using hk
    exact ⟨h2, (Array.getElem?_eq_some_iff.1 h3).1⟩
theorem Queue.slice (h : Queue e W F v fs) : ∃ A c, v = .slice A fs.length c ∧ fs.length ≤ c ∧ c ≤ 9223372036854775807 := by
  rcases h with ⟨rfl, rfl⟩ | ⟨g, off, cap, cur, rfl, h2, h3, h4, h5, _⟩
  · exact ⟨none, 0, rfl, by simp, by omega⟩
  · exact ⟨_, cap, rfl, h4, h5⟩
theorem Queue.of_row {B : Nat} (h : W.ownsRow B e 1 v fs.length (fs.map (Value.int .i64))) (hF : ∀ k, v.ownBlock = some k → F k) : Queue e W F v fs := by
  obtain ⟨h1, h2⟩ := h
  rcases h2 with ⟨rfl, h0⟩ | ⟨g, cap, cur, rfl, hb, hh, hn, hc, hsz, htk⟩
  · exact .inl ⟨rfl, List.eq_nil_of_length_eq_zero h0⟩
  · refine .inr ⟨g, 0, cap, cur, rfl, hF g rfl, hh, hn, by simpa [maxLen] using hc, by omega, fun j x hx => ?_⟩
    have hj : j < fs.length := (List.getElem?_eq_some_iff.1 hx).1
    have : (cur.toList.take (fs.length * 1))[j]? = some (.int .i64 x) := by rw [htk, List.getElem?_map, hx]; rfl
    rw [List.getElem?_take, if_pos (by omega)] at this
    simpa using this
theorem elems_int {k : IntKind} : ∀ {xs : List Int} {cs : List Value}, Elems (kInt k) W F xs cs → cs = xs.map (Value.int k) := by
  intro xs cs h
  apply List.ext_getElem?
  intro j
  rw [List.getElem?_map]
  cases hx : xs[j]? with
  | none =>
    rw [List.getElem?_eq_none_iff] at hx
    have := h.1
    rw [show (kInt k).size = 1 from rfl, Nat.mul_one] at this
    rw [List.getElem?_eq_none (by omega)]; rfl
  | some x =>
    have h2 : ((cs.drop (j * 1)).take 1) = [.int k x] := h.2 j x hx
    rw [Nat.mul_one] at h2
    have : ((cs.drop j).take 1)[0]? = some (.int k x) := by rw [h2]; rfl
    rw [List.getElem?_take, if_pos (by omega), List.getElem?_drop, Nat.add_zero] at this
    exact this
theorem OwnS.queue (h : OwnS (kInt .i64) e W F v fs) : Queue e W F v fs := by
  obtain ⟨cs, h1, h2, h3⟩ := h
  rw [elems_int h2] at h1
  exact Queue.of_row h1 h3

/-- The head of a queue, and what is left of it. -/
theorem Queue.pop {x : Int} {r : List Int} (h : Queue e W F v (x :: r)) :
    ∃ (g off cap : Nat) (A : Option Addr), v = .slice (some ⟨g, off, none⟩) (r.length + 1) cap ∧ F g ∧ g < W.heap.size ∧ W.cell? ⟨g, off, none⟩ = some (.int .i64 x) ∧ r.length + 1 ≤ cap ∧ cap ≤ 9223372036854775807 ∧
      A = (if cap = 1 then some ⟨g, off, none⟩ else some ⟨g, off + 1, none⟩) ∧ Queue e W (fun k => k = g) (.slice A r.length (cap - 1)) r := by
  rcases h with ⟨_, h⟩ | ⟨g, off, cap, cur, h1, h2, h3, h4, h5, h6, h7⟩
  · cases h
  · simp only [List.length_cons] at h1 h4
    refine ⟨g, off, cap, _, h1, h2, (Array.getElem?_eq_some_iff.1 h3).1, ?_, h4, h5, rfl, ?_⟩
    · have := h7 0 x rfl
      rw [Nat.add_zero] at this
      simp [World.cell?, h3, this]
    · by_cases hc : cap = 1
      · subst hc
        have hr : r.length = 0 := by omega
        obtain rfl := List.eq_nil_of_length_eq_zero hr
        rw [if_pos rfl]
        exact .inr ⟨g, off, 0, cur, rfl, rfl, h3, by simp, by omega, by omega, fun j y hy => by simp at hy⟩
      · rw [if_neg hc]
        refine .inr ⟨g, off + 1, cap - 1, cur, rfl, rfl, h3, by omega, by omega, by omega, fun j y hy => ?_⟩
        have := h7 (j + 1) y (by simpa using hy)
        rwa [show off + (j + 1) = off + 1 + j by omega] at this
end

structure Pushed (e : TypeId) (W W' : World) (F : Foot) (v v' : Value) (fs : List Int) : Prop where
  own : Queue e W' (fun k => F k ∨ (W.heap.size ≤ k ∧ k < W'.heap.size)) v' fs
  keeps : Keeps (fun k => v.ownBlock = some k) W W'
  lies : ∀ k, v'.ownBlock = some k → v.ownBlock = some k ∨ W.heap.size ≤ k

theorem run_push {P : Program} {t e bytes : Nat} (E : ElemT P t e 1 bytes) (ty : TypeId) {W : World} {F G : Foot} {v : Value} {fs ys : List Int} {A : Option Addr} {m c : Nat}
    (HQ : Queue e W F v fs) (HR : RS (kInt .i64) W G A m ys) (ha : ∀ k, v.ownBlock = some k → ¬ G k) (hb : (fs.length + m) * bytes ≤ 140737488355328) (hl : fs.length + m ≤ 9223372036854775807) :
    ∃ v' W', (Builtin.append_ #[t, t] ty #[v, .slice A m c]).run P W = .ok v' W' ∧ Pushed e W W' F v v' (fs ++ ys) := by
  rcases HQ with ⟨rfl, rfl⟩ | ⟨g, off, cap, cur, rfl, h2, h3, h4, h5, h6, h7⟩
  · obtain ⟨v', W', hr, hA⟩ := run_append_S (K := kInt .i64) E ty (F := NoF) (v := .slice none 0 0) (xs := []) OwnS.nil HR (fun k hk => by simp [Value.ownBlock] at hk) (by simpa using hb) (by simpa using hl) (c := c)
    have hof : ∀ k, v'.ownBlock = some k → W.heap.size ≤ k := fun k hk => by
      rcases hA.lies k hk with h | h
      · simp [Value.ownBlock] at h
      · exact h.1
    refine ⟨v', W', hr, ?_, ⟨hA.grown.os, hA.grown.tape, hA.grown.output, hA.grown.size, fun k hk hn => hA.grown.block k hk (fun e => hn e.symm)⟩, fun k hk => .inr (hof k hk)⟩
    have := hA.own.queue
    rcases this with h | ⟨g, off, cap, cur, e1, e2, e3, e4⟩
    · exact .inl h
    · refine .inr ⟨g, off, cap, cur, e1, .inr ⟨hof g (by rw [e1]; rfl), (Array.getElem?_eq_some_iff.1 e3).1⟩, e3, e4⟩
  · obtain ⟨i, z, hi, hz, hs, hby, hzs⟩ := E.info
    have ht := E.ht
    obtain ⟨hm, ds, hd, hc⟩ := HR
    have hds := elems_int hd
    have hkeep : Keeps (fun k => (Value.slice (some ⟨g, off, none⟩) fs.length cap).ownBlock = some k) W W := Keeps.refl _ _
    rcases A with _ | ad
    · have h0 : m = 0 := by
        rcases Nat.eq_zero_or_pos m with h0 | h0
        · exact h0
        · obtain ⟨ad, h, _⟩ := hc h0
          cases h
      subst h0
      obtain rfl : ys = [] := List.eq_nil_of_length_eq_zero hm
      refine ⟨.slice (some ⟨g, off, none⟩) fs.length cap, W, ?_, ?_, hkeep, fun k hk => .inl hk⟩
      · simp [Builtin.append_, run_underlying ht, sizeOf, typeInfo, hi, Builtin.lenOf, Builtin.firstCells, h4, storeCells]
      · rw [List.append_nil]
        exact .inr ⟨g, off, cap, cur, rfl, .inl h2, h3, h4, h5, h6, h7⟩
    · have hnews : ∀ j u, ds[j]? = some u → W.cell? (ad.add j) = some u := by
        intro j u hj
        rcases Nat.eq_zero_or_pos m with h0 | h0
        · subst h0
          obtain rfl : ds = [] := List.eq_nil_of_length_eq_zero (by rw [hd.1, hm, Nat.zero_mul])
          simp at hj
        · obtain ⟨ad', h, _, hu⟩ := hc h0
          injection h with h
          subst h
          exact hu j u hj
      have hdl : ds.length = m := by rw [hds, List.length_map, hm]
      by_cases hr : fs.length + m ≤ cap
      · have hrun := run_append_room_cells (P := P) W t ty e i ht hi g off fs.length cap ad m c ds (by rw [hdl, hs, Nat.mul_one]) hnews hd.one_ hr
          (fun j hj => by
            have : off + fs.length * i.size + j < cur.size := by rw [hs, Nat.mul_one]; omega
            simp [World.cell?, h3, Array.getElem?_eq_getElem this])
          (fun j hj => by simp [World.frozen?, h3])
        rw [hs, Nat.mul_one] at hrun
        obtain ⟨cur', g1, g2, g3, g4⟩ := setCells_block g ds (off + fs.length) W cur h3 (by omega)
        refine ⟨_, _, hrun, ?_, keeps_setCells g ds (off + fs.length) W, fun k hk => .inl hk⟩
        refine .inr ⟨g, off, cap, cur', by rw [List.length_append, hm], .inl h2, g1, by rw [List.length_append, hm]; omega, h5, by omega, fun j x hx => ?_⟩
        rcases Nat.lt_or_ge j fs.length with hj | hj
        · rw [List.getElem?_append_left hj] at hx
          rw [g3 _ (by omega)]
          exact h7 j x hx
        · rw [List.getElem?_append_right hj] at hx
          have := g4 (j - fs.length) (.int .i64 x) (by rw [hds, List.getElem?_map, hx]; rfl)
          rwa [show off + fs.length + (j - fs.length) = off + j by omega] at this
      · obtain ⟨v', W', hrun, r1, r2⟩ := run_append_arg_grows (P := P) W t ty e i z 1 bytes ht hi hz hs hby hzs (by omega) ⟨g, off, none⟩ fs.length cap (fs.map (Value.int .i64)) (by simp) (fun j u hj => by
            rw [List.getElem?_map] at hj
            obtain ⟨x, hx, rfl⟩ := Option.map_eq_some_iff.1 hj
            rw [Addr.add_lit]
            simp [World.cell?, h3, h7 j x hx]) ad m c ds (by omega) hnews (by omega) (by simpa [maxLen] using hl) hb
        have hlt : ∀ k, v'.ownBlock = some k → W.heap.size ≤ k ∧ k < W'.heap.size := fun k hk => r1.lt k hk
        refine ⟨v', W', hrun, ?_, ⟨r2.os, r2.tape, r2.output, r2.size, fun k hk hn => r2.block k hk (by simp)⟩, fun k hk => .inr (hlt k hk).1⟩
        refine Queue.of_row (B := W.heap.size) ?_ fun k hk => .inr (hlt k hk)
        rw [hds, ← List.map_append] at r1
        rwa [List.length_append, hm]

theorem wpList_push {P : Program} {t e bytes : Nat} {ops : Array Oper} {rest : List Oper} {o : Oper} {a : Act} {Q : Exit → Act → World → Prop} (hgd : o.guard = none) (E : ElemT P t e 1 bytes) (s x : Operand) (ho : o.op = .call { callee := .builtin .append, args := #[s, x], argTypes := #[t, t] }) {W : World} {F G : Foot} {v : Value} {fs ys : List Int} {A : Option Addr} {m c : Nat}
    (hs : a.eval s = v) (hx : a.eval x = .slice A m c)
    (HQ : Queue e W F v fs) (HR : RS (kInt .i64) W G A m ys) (ha : ∀ k, v.ownBlock = some k → ¬ G k) (hb : (fs.length + m) * bytes ≤ 140737488355328) (hl : fs.length + m ≤ 9223372036854775807)
    (h : ∀ v' W', Pushed e W W' F v v' (fs ++ ys) → wpList P ops Q rest (a.put o.dst v') W') : wpList P ops Q (o :: rest) a W :=
  wpList_plain hgd fun _ hK => by
    obtain ⟨v', W', hr, hA⟩ := run_push E o.type HQ HR ha hb hl (c := c)
    unfold Oper.wp execOp
    simp only [ho, resolve, invoke, builtin, Sem.run_bind, Sem.run_pure, Result.andThen_ok, List.map_toArray, List.map_cons, List.map_nil, hs, hx, hr]
    exact hK _ _ (h v' W' hA)
end Go.Proofs.YtfjndjbpgcggkaaDoor
