/- append onto a row that is owned, of a slice that is read: over any program. No condition. -/
import Derived.Test.YtikpbhhnllchmaaK
import Derived.Deep.AppendLies
import Derived.RegionTactic
import Derived.OwnWalk
import Derived.ArgAppend
set_option linter.unusedVariables false
set_option linter.unusedSimpArgs false
namespace Go.Proofs.Ytikpbhhnllchmaa
open Go.RowKit

/-- Slice type t of element type e, of so many cells and bytes. -/
structure ElemT (P : Program) (t e size bytes : Nat) : Prop where
  ht : P.underlying t = some (.slice e)
  info : ∃ i z, P.info? e = some i ∧ i.zero = some z ∧ i.size = size ∧ i.bytes = bytes ∧ z.cells.size = size
theorem ElemT.mk' {P : Program} {t e size bytes : Nat} {z : Value} (ht : P.underlying t = some (.slice e)) (hi : (P.info? e).map (fun i => (i.zero, i.size, i.bytes)) = some (some z, size, bytes)) (hz : z.cells.size = size) : ElemT P t e size bytes := by
  obtain ⟨i0, h, hzz⟩ := Option.map_eq_some_iff.1 hi
  simp only [Prod.mk.injEq] at hzz
  exact ⟨ht, i0, z, h, hzz.1, hzz.2.1, hzz.2.2, hz⟩

/-- What becomes of 'append': the new row. -/
structure Appended {α : Type} (K : Kind α) (e : TypeId) (W W' : World) (F G : Foot) (v v' : Value) (zs : List α) : Prop where
  own : OwnS K e W' (fun k => F k ∨ G k ∨ (W.heap.size ≤ k ∧ k < W'.heap.size)) v' zs
  grown : W.grownBy W' v.ownBlock
  lies : ∀ k, v'.ownBlock = some k → v.ownBlock = some k ∨ (W.heap.size ≤ k ∧ k < W'.heap.size)

section
variable {P : Program} {α : Type} {K : Kind α} {t e bytes : Nat}

theorem run_append_S (E : ElemT P t e K.size bytes) (ty : TypeId) {W : World} {F G : Foot} {v : Value} {xs ys : List α} {A : Option Addr} {m c : Nat}
    (HO : OwnS K e W F v xs) (HR : RS K W G A m ys) (ha : ∀ k, v.ownBlock = some k → ¬ G k) (hb : (xs.length + m) * bytes ≤ 140737488355328) (hl : xs.length + m ≤ 9223372036854775807) :
    ∃ v' W', (Builtin.append_ #[t, t] ty #[v, .slice A m c]).run P W = .ok v' W' ∧ Appended K e W W' F G v v' (xs ++ ys) := by
  obtain ⟨i, z, hi, hz, hs, hby, hzs⟩ := E.info
  have ht := E.ht
  obtain ⟨cs, h1, h2, h3⟩ := HO
  have HR0 := HR
  obtain ⟨hm, ds, hd, hc⟩ := HR
  have key : ∃ v' W', (Builtin.append_ #[t, t] ty #[v, .slice A m c]).run P W = .ok v' W' ∧ W'.ownsRow 0 e K.size v' (xs.length + m) (cs ++ ds) ∧ W.grownBy W' v.ownBlock ∧ (v'.ownBlock = v.ownBlock ∨ v'.ownBlock = some W.heap.size) := by
    rcases A with _ | ad
    · have h0 : m = 0 := by
        rcases Nat.eq_zero_or_pos m with h0 | h0
        · exact h0
        · obtain ⟨ad, h, _⟩ := hc h0
          cases h
      subst h0
      obtain rfl : ds = [] := List.eq_nil_of_length_eq_zero (by rw [hd.1, hm, Nat.zero_mul])
      refine ⟨v, W, ?_, by simpa using h1, World.grownBy.refl W _, .inl rfl⟩
      rcases h1.2 with ⟨rfl, hn⟩ | ⟨g, cap, cur, rfl, _, _, hnc, _⟩
      · simp [Builtin.append_, run_underlying ht, sizeOf, typeInfo, hi, Builtin.lenOf, Builtin.firstCells]
      · simp [Builtin.append_, run_underlying ht, sizeOf, typeInfo, hi, Builtin.lenOf, Builtin.firstCells, hnc, storeCells]
    · have hcells : ∀ j u, ds[j]? = some u → W.cell? (ad.add j) = some u := by
        intro j u hj
        rcases Nat.eq_zero_or_pos m with h0 | h0
        · subst h0
          obtain rfl : ds = [] := List.eq_nil_of_length_eq_zero (by rw [hd.1, hm, Nat.zero_mul])
          simp at hj
        · obtain ⟨ad', h, _, hu⟩ := hc h0
          injection h with h
          subst h
          exact hu j u hj
      obtain ⟨v', W', hr, g1, g2, _, g4⟩ := run_append_own_at (P := P) W 0 t ty e i z K.size bytes ht hi hz hs hby hzs K.pos v xs.length cs h1 ad m c ds (by rw [hd.1, hm]) hcells hd.one_ (by simp only [maxLen]; omega) hb (Nat.zero_le _)
      exact ⟨v', W', hr, g1, g2, g4⟩
  obtain ⟨v', W', hr, g1, g2, g3⟩ := key
  have lies : ∀ k, v'.ownBlock = some k → v.ownBlock = some k ∨ (W.heap.size ≤ k ∧ k < W'.heap.size) := by
    intro k hk
    rcases g3 with g3 | g3
    · exact .inl (g3 ▸ hk)
    · rw [g3] at hk
      obtain rfl : W.heap.size = k := by injection hk
      exact .inr ⟨Nat.le_refl _, (g1.lt _ g3).2⟩
  refine ⟨v', W', hr, ⟨cs ++ ds, by rw [List.length_append, hm]; exact g1, ?_, fun k hk => ?_⟩, g2, lies⟩
  · refine Elems.append ?_ ?_
    · refine ((h2.bound).mono (G := fun k => (F k ∧ v.ownBlock ≠ some k) ∧ k < W.heap.size) fun k hk => hk).keep (W' := W') (fun k hk hlt => g2.block k hlt (fun e => hk.1.2 e.symm)) |>.mono fun k hk => ⟨.inl hk.1.1, fun he => ?_⟩
      rcases lies k he with hl | hl
      · exact hk.1.2 hl
      · have := hk.2; omega
    · refine ((hd.bound).keep (W' := W') (fun k hk hlt => g2.block k hlt (fun e => ha k e.symm hk.1))).mono fun k hk => ⟨.inr (.inl hk.1), fun he => ?_⟩
      rcases lies k he with hl | hl
      · exact ha k hl hk.1
      · have := hk.2; omega
  · rcases lies k hk with hl | hl
    · exact .inl (h3 k hl)
    · exact .inr (.inr hl)

variable {ops : Array Oper} {rest : List Oper} {o : Oper} {a : Act} {Q : Exit → Act → World → Prop}

theorem wp_append_S (E : ElemT P t e K.size bytes) (s x : Operand) (ho : o.op = .call { callee := .builtin .append, args := #[s, x], argTypes := #[t, t] }) {W : World} {F G : Foot} {v : Value} {xs ys : List α} {A : Option Addr} {m c : Nat}
    (hs : a.eval s = v) (hx : a.eval x = .slice A m c)
    (HO : OwnS K e W F v xs) (HR : RS K W G A m ys) (ha : ∀ k, v.ownBlock = some k → ¬ G k) (hb : (xs.length + m) * bytes ≤ 140737488355328) (hl : xs.length + m ≤ 9223372036854775807)
    {Kt : Act → World → Prop} (h : ∀ v' W', Appended K e W W' F G v v' (xs ++ ys) → Kt (a.put o.dst v') W') : o.wp P a W Kt Q := by
  obtain ⟨v', W', hr, hA⟩ := run_append_S E o.type HO HR ha hb hl (c := c)
  unfold Oper.wp execOp
  simp only [ho, resolve, invoke, builtin, Sem.run_bind, Sem.run_pure, Result.andThen_ok, List.map_toArray, List.map_cons, List.map_nil, hs, hx, hr]
  exact h v' W' hA

theorem wpList_append_S (hgd : o.guard = none) (E : ElemT P t e K.size bytes) (s x : Operand) (ho : o.op = .call { callee := .builtin .append, args := #[s, x], argTypes := #[t, t] }) {W : World} {F G : Foot} {v : Value} {xs ys : List α} {A : Option Addr} {m c : Nat}
    (hs : a.eval s = v) (hx : a.eval x = .slice A m c)
    (HO : OwnS K e W F v xs) (HR : RS K W G A m ys) (ha : ∀ k, v.ownBlock = some k → ¬ G k) (hb : (xs.length + m) * bytes ≤ 140737488355328) (hl : xs.length + m ≤ 9223372036854775807)
    (h : ∀ v' W', Appended K e W W' F G v v' (xs ++ ys) → wpList P ops Q rest (a.put o.dst v') W') : wpList P ops Q (o :: rest) a W :=
  wpList_plain hgd fun _ hK => wp_append_S E s x ho hs hx HO HR ha hb hl fun v' W' hA => hK _ _ (h v' W' hA)

theorem step_append_S {Kt : Act → World → Prop} {X : Prop} (hgd : o.guard = none) (E : ElemT P t e K.size bytes) (s x : Operand) (ho : o.op = .call { callee := .builtin .append, args := #[s, x], argTypes := #[t, t] }) {W : World} {F G : Foot} {v : Value} {xs ys : List α} {A : Option Addr} {m c : Nat}
    (hs : a.eval s = v) (hx : a.eval x = .slice A m c)
    (HO : OwnS K e W F v xs) (HR : RS K W G A m ys) (ha : ∀ k, v.ownBlock = some k → ¬ G k) (hb : (xs.length + m) * bytes ≤ 140737488355328) (hl : xs.length + m ≤ 9223372036854775807)
    (h : ∀ v' W', Appended K e W W' F G v v' (xs ++ ys) → Kt (a.put o.dst v') W') : if Region.wanted o (yielded ops a.tmps) = true then Oper.wp P o a W Kt Q else X := by
  have hw : Region.wanted o (yielded ops a.tmps) = true := by simp [Region.wanted, hgd]
  rw [if_pos hw]
  exact wp_append_S E s x ho hs hx HO HR ha hb hl h
end

/-- A new row, written out in one block: 'T[]{..}'. -/
theorem OwnS.lit {α : Type} {K : Kind α} {e : TypeId} (W : World) {F : Foot} {xs : List α} {cs : Array Value} (h : Elems K W F xs cs.toList) (hm : xs.length ≤ 9223372036854775807) :
    OwnS K e (W.alloc (.cells cs e)) (fun k => F k ∨ k = W.heap.size) (.slice (some ⟨W.heap.size, 0, none⟩) xs.length xs.length) xs := by
  have hsz : cs.size = xs.length * K.size := by have := h.1; simpa using this
  refine ⟨cs.toList, World.ownsRow_lit W cs xs.length (Nat.zero_le _) (by simpa [maxLen] using hm) hsz, ?_, fun k hk => .inr (by simpa [Value.ownBlock] using hk.symm)⟩
  refine ((h.bound).keep (W' := W.alloc (.cells cs e)) (fun k _ hlt => Below.heap_alloc _ _ _ hlt)).mono fun k hk => ⟨.inl hk.1, fun he => ?_⟩
  have : W.heap.size = k := by simpa [Value.ownBlock] using he
  have := hk.2
  omega
/-- The same, to be read. -/
theorem RS.lit {α : Type} {K : Kind α} {e : TypeId} (W : World) {F : Foot} {xs : List α} {cs : Array Value} (h : Elems K W F xs cs.toList) :
    RS K (W.alloc (.cells cs e)) (fun k => F k ∨ k = W.heap.size) (some ⟨W.heap.size, 0, none⟩) xs.length xs :=
  ⟨rfl, cs.toList, (h.keep (W' := W.alloc (.cells cs e)) (fun k _ hlt => Below.heap_alloc _ _ _ hlt)).mono fun _ hk => .inl hk, fun _ => ⟨_, rfl, .inr rfl, World.news_of_block (heap_alloc_new W _)⟩⟩

/-- element i is written: the row with another element. -/
theorem OwnS.lt {α : Type} {K : Kind α} {e : TypeId} {W : World} {F : Foot} {v : Value} {xs : List α} (h : OwnS K e W F v xs) : ∀ k, v.ownBlock = some k → F k ∧ k < W.heap.size := fun k hk =>
  ⟨h.choose_spec.2.2 k hk, (h.choose_spec.1.lt k hk).2⟩

/-- What a copy that is made anew is: its row is new; what the elements lead to lies in F. -/
structure Made {α : Type} (K : Kind α) (e : TypeId) (w w' : World) (F : Foot) (v : Value) (xs : List α) : Prop where
  own : OwnS K e w' F v xs
  new : ∀ k, v.ownBlock = some k → w.heap.size ≤ k
  below : Below w.heap.size w w'
theorem Made.flat {α : Type} {K : Kind α} (hf : Flat K) {e : TypeId} {w w' : World} {F : Foot} {v : Value} {xs : List α} (h : Made K e w w' F v xs) : Made K e w w' (New w w') v xs :=
  ⟨h.own.flat hf fun k hk => ⟨h.new k hk, (h.own.bound.choose_spec.2.2 k hk).2⟩, h.new, h.below⟩
theorem Made.nil {α : Type} {K : Kind α} {e : TypeId} {w w' : World} (hb : Below w.heap.size w w') : Made K e w w' (New w w') (.slice none 0 0) ([] : List α) :=
  ⟨OwnS.nil, fun k hk => by simp [Value.ownBlock] at hk, hb⟩
theorem Made.of_drewN {α : Type} {K : Kind α} {e : TypeId} {w w' : World} {n : Nat} {v : Value} {xs : List α} (h : Made K e (w.drewN n) w' (New (w.drewN n) w') v xs) : Made K e w w' (New w w') v xs :=
  ⟨h.own, h.new, h.below.os, h.below.tape, h.below.output, h.below.size, h.below.block⟩
theorem Made.of_append {α : Type} {K : Kind α} {e : TypeId} {w W' : World} {F : Foot} {v' : Value} {xs : List α} {o : Obj} {n c : Nat}
    (h : Appended K e (w.alloc o) W' (fun k => k = w.heap.size) (fun k => F k ∧ k < w.heap.size) (.slice (some ⟨w.heap.size, 0, none⟩) n c) v' xs) : Made K e w W' (Grow F w W') v' xs := by
  have hs := h.grown.size
  rw [World.size_alloc] at hs
  refine ⟨h.own.mono fun k hk => ?_, fun k hk => ?_, ?_⟩
  · rcases hk with rfl | hk | hk
    · exact .inr ⟨Nat.le_refl _, by omega⟩
    · exact .inl hk.1
    · rw [World.size_alloc] at hk; exact .inr ⟨by omega, hk.2⟩
  · rcases h.lies k hk with hl | hl
    · have : w.heap.size = k := by simpa [Value.ownBlock] using hl
      omega
    · rw [World.size_alloc] at hl; omega
  · refine ((Below.refl _ _).alloc (Nat.le_refl _) o).grown h.grown (by simp) ?_
    intro k hk
    have : w.heap.size = k := by simpa [Value.ownBlock] using hk
    omega

/-! ### Cuts: an address that is a letter -/
theorem cut_lo {P : Program} {t e size bytes : Nat} (E : ElemT P t e size bytes) (kl : IntKind) (A : Option Addr) (n c m : Nat) (hm : m ≤ n) :
    ∃ A' : Option Addr, (∀ W : World, (Instr.slice t (.slice A n c) (some (.int kl (m : Int))) none none).run P W = .ok (.slice A' (n - m) (c - m)) W) ∧
      ∀ {α : Type} (K : Kind α) (W : World) (F : Foot) (xs : List α), K.size = size → n ≤ c → RS K W F A n xs → RS K W F A' (n - m) (xs.drop m) := by
  obtain ⟨i, z, hi, hz, hs, hb, hzs⟩ := E.info
  refine ⟨if c = m then A else A.map (·.add (m * size)), fun W => ?_, fun K W F xs hK hc h => by have := h.drop_ m hm c hc; rwa [hK] at this⟩
  have hel : P.elem t = e := by simp [Program.elem, E.ht]
  have hu : P.underlying t = some (.slice (P.elem t)) := by rw [hel]; exact E.ht
  rw [run_slice_l W t A n c hu kl (m : Int) (Int.natCast_nonneg _) (by omega), hel]
  simp [sizeOf, typeInfo, hi, hs, sliced, Result.andThen]
theorem cut_hi {P : Program} {t e size bytes : Nat} (E : ElemT P t e size bytes) (kh : IntKind) (A : Option Addr) (n c h : Nat) (hc : h ≤ c) :
    ∀ W : World, (Instr.slice t (.slice A n c) none (some (.int kh (h : Int))) none).run P W = .ok (.slice A h c) W := by
  obtain ⟨i, z, hi, hz, hs, hb, hzs⟩ := E.info
  intro W
  have hel : P.elem t = e := by simp [Program.elem, E.ht]
  have hu : P.underlying t = some (.slice (P.elem t)) := by rw [hel]; exact E.ht
  rw [run_slice_h W t A n c hu kh (h : Int) (Int.natCast_nonneg _) (by omega), hel]
  cases A <;> simp [sizeOf, typeInfo, hi, sliced, Result.andThen, Addr.add]

theorem cut_him {P : Program} {t e size bytes : Nat} (E : ElemT P t e size bytes) (kh km : IntKind) (A : Option Addr) (n c h m : Nat) (hm : h ≤ m) (hc : m ≤ c) :
    ∀ W : World, (Instr.slice t (.slice A n c) none (some (.int kh (h : Int))) (some (.int km (m : Int)))).run P W = .ok (.slice A h m) W := by
  obtain ⟨i, z, hi, hz, hs, hb, hzs⟩ := E.info
  intro W
  have hel : P.elem t = e := by simp [Program.elem, E.ht]
  have hu : P.underlying t = some (.slice (P.elem t)) := by rw [hel]; exact E.ht
  rw [run_slice_hm W t A n c hu kh km (h : Int) (m : Int) (Int.natCast_nonneg _) (by omega) (by omega), hel]
  cases A <;> simp [sizeOf, typeInfo, hi, sliced, Result.andThen, Addr.add]

/-- append onto a slice that has no room: a new row. -/
theorem run_append_full {P : Program} {α : Type} {K : Kind α} {t e bytes : Nat} (E : ElemT P t e K.size bytes) (ty : TypeId) {W : World} {F G : Foot} {xs ys : List α} {A B : Option Addr} {n c m d : Nat}
    (HX : RS K W F A n xs) (HR : RS K W G B m ys) (hm0 : 0 < m) (hfull : c < n + m) (hb : (n + m) * bytes ≤ 140737488355328) (hl : n + m ≤ 9223372036854775807) (hn : A = none → c = 0) :
    ∃ v' W', (Builtin.append_ #[t, t] ty #[.slice A n c, .slice B m d]).run P W = .ok v' W' ∧ Made K e W W' (fun k => F k ∨ G k ∨ (W.heap.size ≤ k ∧ k < W'.heap.size)) v' (xs ++ ys) := by
  obtain ⟨i, z, hi, hz, hs, hby, hzs⟩ := E.info
  have ht := E.ht
  obtain ⟨hxl, cs, hcs, hca⟩ := HX
  obtain ⟨hyl, ds, hds, hda⟩ := HR
  obtain ⟨bd, rfl, hGb, hdu⟩ := hda hm0
  have key : ∃ v' W', (Builtin.append_ #[t, t] ty #[.slice A n c, .slice (some bd) m d]).run P W = .ok v' W' ∧ W'.ownsRow W.heap.size e K.size v' (n + m) (cs ++ ds) ∧ W.grownBy W' none := by
    cases A with
    | some ad =>
      refine run_append_arg_grows (P := P) W t ty e i z K.size bytes ht hi hz hs hby hzs K.pos ad n c cs (by rw [hcs.1, hxl]) (fun j u hj => ?_) bd m d ds (by rw [hds.1, hyl]) hdu hfull (by simp only [maxLen]; omega) hb
      rcases Nat.eq_zero_or_pos n with h0 | h0
      · obtain rfl : cs = [] := List.eq_nil_of_length_eq_zero (by rw [hcs.1, hxl, h0, Nat.zero_mul])
        simp at hj
      · obtain ⟨ad', h, _, hu⟩ := hca h0
        injection h with h
        subst h
        exact hu j u hj
    | none =>
      obtain rfl := hn rfl
      have hn0 : n = 0 := by
        rcases Nat.eq_zero_or_pos n with h0 | h0
        · exact h0
        · obtain ⟨ad', h, _⟩ := hca h0
          cases h
      subst hn0
      obtain rfl : cs = [] := List.eq_nil_of_length_eq_zero (by rw [hcs.1, hxl, Nat.zero_mul])
      obtain ⟨v', w', hrun, r1, r2, _⟩ := run_append_own (P := P) W W.heap.size t ty e i z K.size bytes ht hi hz hs hby hzs K.pos (.slice none 0 0) 0 [] (World.ownsRow_nil W _ e K.size) bd m d ds (by rw [hds.1, hyl]) hdu hds.one_ (by simp only [maxLen]; omega) hb (Nat.le_refl _)
      exact ⟨v', w', hrun, r1, r2⟩
  obtain ⟨v', W', hr, g1, g2⟩ := key
  have hlt : ∀ k, v'.ownBlock = some k → W.heap.size ≤ k ∧ k < W'.heap.size := fun k hk => g1.lt k hk
  refine ⟨v', W', hr, ⟨cs ++ ds, ?_, Elems.append ?_ ?_, fun k hk => .inr (.inr (hlt k hk))⟩, fun k hk => (hlt k hk).1, g2.os, g2.tape, g2.output, g2.size, fun k hk => g2.block k hk (by simp)⟩
  · rw [List.length_append, hxl, hyl]
    refine ⟨g1.1, ?_⟩
    rcases g1.2 with h | ⟨g, cap, cur, hv, _, r⟩
    · exact .inl h
    · exact .inr ⟨g, cap, cur, hv, Nat.zero_le _, r⟩
  · refine (hcs.bound.keep (W' := W') (fun k hk hlt' => g2.block k hlt' (by simp))).mono fun k hk => ⟨.inl hk.1, fun he => ?_⟩
    have := hlt k he; have := hk.2; omega
  · refine (hds.bound.keep (W' := W') (fun k hk hlt' => g2.block k hlt' (by simp))).mono fun k hk => ⟨.inr (.inl hk.1), fun he => ?_⟩
    have := hlt k he; have := hk.2; omega

theorem wpList_append_full {P : Program} {α : Type} {K : Kind α} {t e bytes : Nat} {ops : Array Oper} {rest : List Oper} {o : Oper} {a : Act} {Q : Exit → Act → World → Prop} (hgd : o.guard = none) (E : ElemT P t e K.size bytes) (s x : Operand) (ho : o.op = .call { callee := .builtin .append, args := #[s, x], argTypes := #[t, t] }) {W : World} {F G : Foot} {xs ys : List α} {A B : Option Addr} {n c m d : Nat}
    (hs : a.eval s = .slice A n c) (hx : a.eval x = .slice B m d)
    (HX : RS K W F A n xs) (HR : RS K W G B m ys) (hm0 : 0 < m) (hfull : c < n + m) (hb : (n + m) * bytes ≤ 140737488355328) (hl : n + m ≤ 9223372036854775807) (hn : A = none → c = 0)
    (h : ∀ v' W', Made K e W W' (fun k => F k ∨ G k ∨ (W.heap.size ≤ k ∧ k < W'.heap.size)) v' (xs ++ ys) → wpList P ops Q rest (a.put o.dst v') W') : wpList P ops Q (o :: rest) a W :=
  wpList_plain hgd fun _ hK => by
    obtain ⟨v', W', hr, hA⟩ := run_append_full E o.type HX HR hm0 hfull hb hl hn (d := d)
    unfold Oper.wp execOp
    simp only [ho, resolve, invoke, builtin, Sem.run_bind, Sem.run_pure, Result.andThen_ok, List.map_toArray, List.map_cons, List.map_nil, hs, hx, hr]
    exact hK _ _ (h v' W' hA)

/-! ### A row whose first i elements lead into F1, the others into F2 -/
def OwnSp {α : Type} (K : Kind α) (e : TypeId) (W : World) (F1 F2 : Foot) (v : Value) (xs : List α) (i : Nat) : Prop :=
  ∃ cs, W.ownsRow 0 e K.size v xs.length cs ∧ Elems K W (fun k => F1 k ∧ v.ownBlock ≠ some k) (xs.take i) (cs.take (i * K.size)) ∧ Elems K W (fun k => F2 k ∧ v.ownBlock ≠ some k) (xs.drop i) (cs.drop (i * K.size)) ∧ ∀ k, v.ownBlock = some k → F1 k
section
variable {α : Type} {K : Kind α} {e : TypeId} {W W' : World} {F1 F2 : Foot} {v : Value} {xs : List α} {i : Nat}
theorem OwnSp.start (h : OwnS K e W F2 v xs) (hr : ∀ k, v.ownBlock = some k → F1 k) : OwnSp K e W F1 F2 v xs 0 := by
  obtain ⟨cs, h1, h2, h3⟩ := h
  exact ⟨cs, h1, by rw [Nat.zero_mul]; exact Elems.nil, by rw [Nat.zero_mul]; exact h2, hr⟩
theorem OwnSp.form (h : OwnSp K e W F1 F2 v xs i) (hn : 0 < xs.length) : ∃ g cap, v = .slice (some ⟨g, 0, none⟩) xs.length cap := by
  obtain ⟨cs, h1, h2, h3, h4⟩ := h
  rcases h1.2 with ⟨_, h⟩ | ⟨g, cap, cur, hv, _⟩
  · omega
  · exact ⟨g, cap, hv⟩
theorem OwnSp.row (h : OwnSp K e W F1 F2 v xs i) : ∀ k, v.ownBlock = some k → F1 k := h.choose_spec.2.2.2
theorem OwnSp.addr {A : Option Addr} {n c : Nat} (h : OwnSp K e W F1 F2 (.slice A n c) xs i) (hn : 0 < xs.length) : ∃ g, A = some ⟨g, 0, none⟩ := by
  obtain ⟨g, cap, hv⟩ := h.form hn
  injection hv with hv _ _
  exact ⟨g, hv⟩
theorem OwnSp.done (h : OwnSp K e W F1 F2 v xs xs.length) : OwnS K e W F1 v xs := by
  obtain ⟨cs, h1, h2, h3, h4⟩ := h
  refine ⟨cs, h1, ?_, h4⟩
  rw [List.take_of_length_le (Nat.le_refl _), List.take_of_length_le (by rw [h1.1]; exact Nat.le_refl _)] at h2
  exact h2
theorem OwnSp.keep (h : OwnSp K e W F1 F2 v xs i) (hs : W.heap.size ≤ W'.heap.size) (hk : ∀ k, F1 k ∨ F2 k → k < W.heap.size → W'.heap[k]? = W.heap[k]?) : OwnSp K e W' F1 F2 v xs i := by
  obtain ⟨cs, h1, h2, h3, h4⟩ := h
  refine ⟨cs, ⟨h1.1, ?_⟩, h2.keep fun k hf hlt => hk k (.inl hf.1) hlt, h3.keep fun k hf hlt => hk k (.inr hf.1) hlt, h4⟩
  rcases h1.2 with h | ⟨g, cap, cur, hv, hb, hh, r⟩
  · exact .inl h
  · refine .inr ⟨g, cap, cur, hv, hb, ?_, r⟩
    rw [hk g (.inl (h4 g (by rw [hv]; rfl))) (Array.getElem?_eq_some_iff.1 hh).1]
    exact hh
theorem OwnSp.below (h : OwnSp K e W F1 F2 v xs i) (hk : Below W.heap.size W W') : OwnSp K e W' F1 F2 v xs i := h.keep hk.size fun k _ hlt => hk.block k hlt
theorem OwnSp.mono {G1 G2 : Foot} (h : OwnSp K e W F1 F2 v xs i) (h1 : ∀ k, F1 k → G1 k) (h2 : ∀ k, F2 k → G2 k) : OwnSp K e W G1 G2 v xs i := by
  obtain ⟨cs, g1, g2, g3, g4⟩ := h
  exact ⟨cs, g1, g2.mono fun k hk => ⟨h1 k hk.1, hk.2⟩, g3.mono fun k hk => ⟨h2 k hk.1, hk.2⟩, fun k hk => h1 k (g4 k hk)⟩
/-- Element i: its cells; and what a store into one of them makes. -/
theorem OwnSp.step {g n cap : Nat} (h : OwnSp K e W F1 F2 (.slice (some ⟨g, 0, none⟩) n cap) xs i) {x : α} (hx : xs[i]? = some x) :
    ∃ c, K.rep W (fun k => F2 k ∧ g ≠ k) x c ∧ (∀ j u, c[j]? = some u → W.cell? ⟨g, i * K.size + j, none⟩ = some u ∧ W.frozen? ⟨g, i * K.size + j, none⟩ = false) ∧ g < W.heap.size ∧
      ∀ (W1 : World), W1.heap[g]? = W.heap[g]? → W.heap.size ≤ W1.heap.size → (∀ k, F1 k ∨ F2 k → k < W.heap.size → W1.heap[k]? = W.heap[k]?) →
        ∀ j u, j < K.size → (∀ W2 : World, (∀ k, k ≠ g → W2.heap[k]? = W1.heap[k]?) → K.rep W2 (fun k => F1 k ∧ g ≠ k) x (c.set j u)) → OwnSp K e (W1.setCell ⟨g, i * K.size + j, none⟩ u) F1 F2 (.slice (some ⟨g, 0, none⟩) n cap) xs (i + 1) := by
  obtain ⟨cs, h1, h2, h3, h4⟩ := h
  have hown : ∀ k, (Value.slice (some (⟨g, 0, none⟩ : Addr)) n cap).ownBlock ≠ some k ↔ g ≠ k := fun k => by simp [Value.ownBlock]
  have hil : i < xs.length := (List.getElem?_eq_some_iff.1 hx).1
  have hd0 : (xs.drop i)[0]? = some x := by rw [List.getElem?_drop, Nat.add_zero]; exact hx
  have hr := h3.2 0 x hd0
  rw [Nat.zero_mul, List.drop_zero] at hr
  have hn : n = xs.length := by
    rcases h1.2 with ⟨h, _⟩ | ⟨g', cap', cur, h, _⟩
    · cases h
    · injection h
  have hlt : g < W.heap.size := (h1.lt g rfl).2
  have hle : i * K.size + K.size ≤ cs.length := by rw [h1.1, ← Nat.succ_mul]; exact Nat.mul_le_mul_right _ hil
  refine ⟨_, K.mono hr (fun k hk => ⟨hk.1, (hown k).1 hk.2⟩), fun j u hu => ?_, hlt, fun W1 hg1 hs1 hk1 j u hj hrep => ?_⟩
  · have hu' : cs[i * K.size + j]? = some u := by
      rw [List.getElem?_take] at hu
      split at hu
      · rwa [List.getElem?_drop] at hu
      · simp at hu
    refine ⟨?_, ?_⟩
    · have := h1.cells (g := g) rfl _ u hu'
      rwa [Addr.add_lit, Nat.zero_add] at this
    · rcases h1.2 with ⟨h, _⟩ | ⟨g', cap', cur, h, _, hh, _⟩
      · cases h
      · have : g = g' := by injection h with h; injection h with h; injection h with h
        subst this
        simp [World.frozen?, hh]
  · have hO1 : W1.ownsRow 0 e K.size (.slice (some ⟨g, 0, none⟩) n cap) n cs := by
      refine ⟨by rw [h1.1, hn], ?_⟩
      rcases h1.2 with ⟨h, _⟩ | ⟨g', cap', cur, h, hb, hh, r⟩
      · cases h
      · have : g = g' := by injection h with h; injection h with h; injection h with h
        subst this
        rw [← hn] at r
        exact .inr ⟨g, cap', cur, by rw [h, hn], hb, by rw [hg1]; exact hh, r⟩
    have hst := (hO1.stored (i * K.size + j) u).1
    have hoth : ∀ k, k ≠ g → (W1.setCell ⟨g, i * K.size + j, none⟩ u).heap[k]? = W1.heap[k]? := fun k hk => Below.heap_setCell _ _ _ _ hk
    have hkk : ∀ k, (F1 k ∨ F2 k) → g ≠ k → k < W.heap.size → (W1.setCell ⟨g, i * K.size + j, none⟩ u).heap[k]? = W.heap[k]? := fun k hF hne hlt' =>
      (hoth k (fun h => hne h.symm)).trans (hk1 k hF hlt')
    refine ⟨_, by rw [← hn]; exact hst, ?_, ?_, h4⟩
    · have hnew := hrep (W1.setCell ⟨g, i * K.size + j, none⟩ u) hoth
      have e1 : (xs.take (i + 1)) = xs.take i ++ [x] := by rw [List.take_add_one, hx]; rfl
      have e2 : (cs.set (i * K.size + j) u).take ((i + 1) * K.size) = cs.take (i * K.size) ++ (((cs.drop (i * K.size)).take K.size).set j u) := by
        rw [Nat.add_mul, Nat.one_mul, List.take_add, List.take_set_of_le (by omega), List.drop_set, if_neg (by omega), Nat.add_sub_cancel_left, List.take_set]
      rw [e1, e2]
      refine Elems.append (h2.keep fun k hF hlt' => hkk k (.inl hF.1) ((hown k).1 hF.2) hlt') (Elems.single (K.mono hnew fun k hk => ⟨hk.1, (hown k).2 hk.2⟩))
    · have e2 : (cs.set (i * K.size + j) u).drop ((i + 1) * K.size) = (cs.drop (i * K.size)).drop K.size := by
        rw [List.drop_set, if_pos (by rw [Nat.add_mul]; omega), List.drop_drop, Nat.add_mul, Nat.one_mul]
      have e1 : xs.drop (i + 1) = (xs.drop i).drop 1 := by rw [List.drop_drop]
      rw [e1, e2]
      have := h3.drop_ 1
      rw [Nat.one_mul] at this
      exact this.keep fun k hF hlt' => hkk k (.inr hF.1) ((hown k).1 hF.2) hlt'
end
end Go.Proofs.Ytikpbhhnllchmaa
