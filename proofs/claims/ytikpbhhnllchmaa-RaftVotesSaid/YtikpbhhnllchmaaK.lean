/- Words for memory: footprints, kinds of values, slices that are read, slices that are owned. Plain lemmas; no condition. -/
import Derived.WalkKit
import Derived.WalkSpells
import Derived.WalkLawsBesides
import Derived.Maps.AppendAt
import Derived.Deep.Draws
set_option linter.unusedVariables false
set_option linter.unusedSimpArgs false
namespace Go.Proofs.Ytikpbhhnllchmaa
open Go.RowKit

/-! ### Footprints -/
abbrev Foot := Nat → Prop

/-- w' is w, but for the blocks in S and new blocks. -/
structure Keeps (S : Foot) (w w' : World) : Prop where
  os : w'.os = w.os
  tape : w'.tape = w.tape
  output : w'.output = w.output
  size : w.heap.size ≤ w'.heap.size
  block : ∀ k, k < w.heap.size → ¬ S k → w'.heap[k]? = w.heap[k]?

def NoF : Foot := fun _ => False

theorem Keeps.refl (S : Foot) (w : World) : Keeps S w w := ⟨rfl, rfl, rfl, Nat.le_refl _, fun _ _ _ => rfl⟩
theorem Keeps.trans {S : Foot} {a b c : World} (h : Keeps S a b) (k : Keeps S b c) : Keeps S a c :=
  ⟨k.os.trans h.os, k.tape.trans h.tape, k.output.trans h.output, Nat.le_trans h.size k.size, fun i hi hs => (k.block i (Nat.lt_of_lt_of_le hi h.size) hs).trans (h.block i hi hs)⟩
theorem Keeps.mono {S T : Foot} {w w' : World} (h : Keeps S w w') (hs : ∀ k, k < w.heap.size → S k → T k) : Keeps T w w' :=
  ⟨h.os, h.tape, h.output, h.size, fun k hk hn => h.block k hk (fun hS => hn (hs k hk hS))⟩
/-- a step that may turn S's blocks, or those that are new since a. -/
theorem Keeps.step {S T : Foot} {a b c : World} (h : Keeps S a b) (k : Keeps T b c) (hT : ∀ i, T i → i < a.heap.size → S i) : Keeps S a c :=
  ⟨k.os.trans h.os, k.tape.trans h.tape, k.output.trans h.output, Nat.le_trans h.size k.size,
   fun i hi hs => (k.block i (Nat.lt_of_lt_of_le hi h.size) (fun ht => hs (hT i ht hi))).trans (h.block i hi hs)⟩
theorem Keeps.of_below {w w' : World} (h : Below w.heap.size w w') (S : Foot) : Keeps S w w' := ⟨h.os, h.tape, h.output, h.size, fun k hk _ => h.block k hk⟩
theorem Keeps.below {w w' : World} (h : Keeps NoF w w') : Below w.heap.size w w' := ⟨h.os, h.tape, h.output, h.size, fun k hk => h.block k hk id⟩
theorem Keeps.below_of {S : Foot} {a w w' : World} (h : Keeps S w w') (ha : a.heap.size ≤ w.heap.size) (hs : ∀ k, S k → a.heap.size ≤ k) : Below a.heap.size w w' :=
  ⟨h.os, h.tape, h.output, h.size, fun k hk => h.block k (by omega) (fun hS => by have := hs k hS; omega)⟩
theorem Keeps.drew {S : Foot} {a w : World} (h : Keeps S a w) : Keeps S a w.drew := ⟨h.os, h.tape, h.output, h.size, h.block⟩
theorem Keeps.drewN {S : Foot} {a w : World} (h : Keeps S a w) (n : Nat) : Keeps S a (w.drewN n) := ⟨h.os, h.tape, h.output, h.size, h.block⟩
theorem Keeps.alloc {S : Foot} {a w : World} (h : Keeps S a w) (o : Obj) : Keeps S a (w.alloc o) :=
  h.trans ⟨rfl, rfl, rfl, by simp, fun k hk _ => Below.heap_alloc _ _ _ hk⟩
theorem Keeps.setCell {S : Foot} {a w : World} (h : Keeps S a w) {p : Addr} (hp : p.block < a.heap.size → S p.block) (u : Value) : Keeps S a (w.setCell p u) :=
  ⟨h.os, h.tape, h.output, by simpa using h.size, fun k hk hs => (Below.heap_setCell _ _ _ _ (fun e => hs (by subst e; exact hp hk))).trans (h.block k hk hs)⟩
theorem Keeps.grown {S : Foot} {a w w' : World} {row : Option Nat} (h : Keeps S a w) (hg : w.grownBy w' row) (hr : ∀ k, row = some k → k < a.heap.size → S k) : Keeps S a w' :=
  ⟨hg.os.trans h.os, hg.tape.trans h.tape, hg.output.trans h.output, Nat.le_trans h.size hg.size,
   fun k hk hs => (hg.block k (Nat.lt_of_lt_of_le hk h.size) (fun e => hs (hr k e.symm hk))).trans (h.block k hk hs)⟩
theorem Keeps.then_below {S : Foot} {a w w' : World} (h : Keeps S a w) (hb : Below w.heap.size w w') : Keeps S a w' := h.trans (.of_below hb S)
theorem Keeps.cell {S : Foot} {w w' : World} (h : Keeps S w w') {p : Addr} {v : Value} (hc : w.cell? p = some v) (hp : ¬ S p.block) : w'.cell? p = some v :=
  (World.cell?_of_block (h.block p.block (World.block_lt_of_cell? w p hc) hp)).trans hc

theorem drawn_below (w : World) (n : Nat) : Below w.heap.size w (w.drewN n) := ⟨rfl, rfl, rfl, Nat.le_refl _, fun _ _ => rfl⟩

theorem below_undrew {w w' : World} (h : Below w.drew.heap.size w.drew w') : Below w.heap.size w w' := ⟨h.os, h.tape, h.output, h.size, h.block⟩

/-- What is new in w' since w. -/
def New (w w' : World) : Foot := fun k => w.heap.size ≤ k ∧ k < w'.heap.size
/-- F, and what is new in w' since w. -/
def Grow (F : Foot) (w w' : World) : Foot := fun k => F k ∨ (w.heap.size ≤ k ∧ k < w'.heap.size)
/-- All old blocks. -/
def Old (w : World) : Foot := fun k => k < w.heap.size
def Apart (F G : Foot) : Prop := ∀ k, F k → ¬ G k
def In (F : Foot) (w : World) : Prop := ∀ k, F k → k < w.heap.size
theorem Apart.symm {F G : Foot} (h : Apart F G) : Apart G F := fun k hg hf => h k hf hg
theorem Apart.grow {F G : Foot} {w w' : World} (h : Apart F G) (hG : In G w) : Apart (Grow F w w') G := fun k hk hg => by
  rcases hk with hk | hk
  · exact h k hk hg
  · have := hG k hg; omega
theorem Apart.grow' {F G : Foot} {w w' : World} (h : Apart G F) (hG : In G w) : Apart G (Grow F w w') := (h.symm.grow hG).symm
theorem Apart.new {G : Foot} {w w' : World} (hG : In G w) : Apart (New w w') G := fun k hk hg => by have := hG k hg; have := hk.1; omega
theorem In.mono {F : Foot} {w w' : World} (h : In F w) (hs : w.heap.size ≤ w'.heap.size) : In F w' := fun k hk => Nat.lt_of_lt_of_le (h k hk) hs
theorem In.grow {F : Foot} {w w' : World} (h : In F w) (hs : w.heap.size ≤ w'.heap.size) : In (Grow F w w') w' := fun k hk => by
  rcases hk with hk | hk
  · have := h k hk; omega
  · exact hk.2
theorem In.new (w w' : World) : In (New w w') w' := fun _ hk => hk.2

/-! ### Kinds -/
/-- Cells cs say x, in world W; what they lead to lies in F. -/
structure Kind (α : Type) where
  size : Nat
  pos : 0 < size
  rep : World → Foot → α → List Value → Prop
  len : ∀ {W F x cs}, rep W F x cs → cs.length = size
  one : ∀ {W F x cs}, rep W F x cs → ∀ u ∈ cs, u.oneCell' = true
  mono : ∀ {W F G x cs}, rep W F x cs → (∀ k, F k → G k) → rep W G x cs
  keep : ∀ {W W' F x cs}, rep W F x cs → (∀ k, F k → k < W.heap.size → W'.heap[k]? = W.heap[k]?) → rep W' F x cs
  bound : ∀ {W F x cs}, rep W F x cs → rep W (fun k => F k ∧ k < W.heap.size) x cs

def Elems {α : Type} (K : Kind α) (W : World) (F : Foot) (xs : List α) (cs : List Value) : Prop :=
  cs.length = xs.length * K.size ∧ ∀ j x, xs[j]? = some x → K.rep W F x ((cs.drop (j * K.size)).take K.size)

section
variable {α : Type} {K : Kind α} {W W' : World} {F G : Foot} {xs ys : List α} {cs ds : List Value}
theorem Elems.nil : Elems K W F [] [] := ⟨by simp, fun j x h => by simp at h⟩
theorem Elems.mono (h : Elems K W F xs cs) (hG : ∀ k, F k → G k) : Elems K W G xs cs := ⟨h.1, fun j x hx => K.mono (h.2 j x hx) hG⟩
theorem Elems.keep (h : Elems K W F xs cs) (hk : ∀ k, F k → k < W.heap.size → W'.heap[k]? = W.heap[k]?) : Elems K W' F xs cs := ⟨h.1, fun j x hx => K.keep (h.2 j x hx) hk⟩
theorem Elems.bound (h : Elems K W F xs cs) : Elems K W (fun k => F k ∧ k < W.heap.size) xs cs := ⟨h.1, fun j x hx => K.bound (h.2 j x hx)⟩
theorem Elems.append (h : Elems K W F xs cs) (h' : Elems K W F ys ds) : Elems K W F (xs ++ ys) (cs ++ ds) := by
  refine ⟨by rw [List.length_append, h.1, h'.1, List.length_append, Nat.add_mul], fun j x hx => ?_⟩
  rcases Nat.lt_or_ge j xs.length with hj | hj
  · rw [List.getElem?_append_left hj] at hx
    have h1 : j * K.size + K.size ≤ cs.length := by rw [h.1, ← Nat.succ_mul]; exact Nat.mul_le_mul_right _ hj
    have h2 := h.2 j x hx
    rw [List.drop_append_of_le_length (by omega), List.take_append_of_le_length (by rw [List.length_drop]; omega)]
    exact h2
  · rw [List.getElem?_append_right hj] at hx
    have h2 := h'.2 _ x hx
    have e : j * K.size = cs.length + (j - xs.length) * K.size := by rw [h.1, ← Nat.add_mul, Nat.add_sub_cancel' hj]
    rw [e, List.drop_append, List.drop_eq_nil_of_le (Nat.le_add_right _ _), List.nil_append, Nat.add_sub_cancel_left]
    exact h2
theorem Elems.one_ (h : Elems K W F xs cs) : ∀ u ∈ cs, u.oneCell' = true := by
  intro u hu
  obtain ⟨i, hi, rfl⟩ := List.getElem_of_mem hu
  have hp := K.pos
  have hlt : i / K.size < xs.length := by rw [Nat.div_lt_iff_lt_mul hp, ← h.1]; exact hi
  have h2 := h.2 (i / K.size) _ (List.getElem?_eq_getElem hlt)
  refine K.one h2 _ ?_
  rw [List.mem_iff_getElem?]
  refine ⟨i % K.size, ?_⟩
  rw [List.getElem?_take, if_pos (Nat.mod_lt _ hp), List.getElem?_drop, Nat.mul_comm, Nat.div_add_mod, List.getElem?_eq_getElem hi]
theorem Elems.single {x : α} (h : K.rep W F x cs) : Elems K W F [x] cs := by
  refine ⟨by simp [K.len h], fun j y hy => ?_⟩
  have hj : j < 1 := by
    have := (List.getElem?_eq_some_iff.1 hy).1
    simpa using this
  obtain rfl : j = 0 := by omega
  simp at hy
  subst hy
  rw [Nat.zero_mul, List.drop_zero, List.take_of_length_le (by rw [K.len h]; exact Nat.le_refl _)]
  exact h
theorem Elems.drop_ (h : Elems K W F xs cs) (i : Nat) : Elems K W F (xs.drop i) (cs.drop (i * K.size)) := by
  refine ⟨by rw [List.length_drop, h.1, List.length_drop, Nat.sub_mul], fun j x hx => ?_⟩
  rw [List.getElem?_drop] at hx
  have h2 := h.2 _ x hx
  rw [List.drop_drop, ← Nat.add_mul]
  exact h2
theorem Elems.take_ (h : Elems K W F xs cs) (i : Nat) : Elems K W F (xs.take i) (cs.take (i * K.size)) := by
  refine ⟨by rw [List.length_take, h.1, List.length_take, Nat.min_def, Nat.min_def]; split <;> rename_i h0 <;> split <;> rename_i h1
             · rfl
             · exact absurd (Nat.le_of_mul_le_mul_right h0 K.pos) h1
             · exact absurd (Nat.mul_le_mul_right _ h1) h0
             · rfl, fun j x hx => ?_⟩
  rw [List.getElem?_take] at hx
  split at hx
  · rename_i hj
    have h2 := h.2 _ x hx
    have hle : j * K.size + K.size ≤ i * K.size := by rw [← Nat.succ_mul]; exact Nat.mul_le_mul_right _ hj
    rw [List.drop_take, List.take_take, Nat.min_eq_left (by omega)]
    exact h2
  · simp at hx
theorem Elems.at_ (h : Elems K W F xs cs) {i : Nat} {x : α} (hx : xs[i]? = some x) : ∃ c, K.rep W F x c ∧ ∀ j u, c[j]? = some u → cs[i * K.size + j]? = some u := by
  refine ⟨_, h.2 i x hx, fun j u hu => ?_⟩
  rw [List.getElem?_take] at hu
  split at hu
  · rw [List.getElem?_drop] at hu; exact hu
  · simp at hu
end

/-! ### A slice that is read -/
/-- The slice at A of length n reads as xs; all that it leads to lies in F. -/
def RS {α : Type} (K : Kind α) (W : World) (F : Foot) (A : Option Addr) (n : Nat) (xs : List α) : Prop :=
  xs.length = n ∧ ∃ cs, Elems K W F xs cs ∧ (0 < n → ∃ ad, A = some ad ∧ F ad.block ∧ ∀ j u, cs[j]? = some u → W.cell? (ad.add j) = some u)

theorem block_add (a : Addr) (n : Nat) : (a.add n).block = a.block := by unfold Addr.add; split <;> rfl
theorem add_add (a : Addr) (i j : Nat) : (a.add i).add j = a.add (i + j) := by
  unfold Addr.add
  by_cases hi : i = 0 <;> by_cases hj : j = 0 <;> simp [hi, hj, Nat.add_assoc]
theorem add_field (a : Addr) (n j : Nat) (hj : 0 < j) : a.add (n + j) = ⟨(a.add n).block, (a.add n).off + j, none⟩ := by
  rw [← add_add]
  rw [Addr.add, if_neg (by omega)]

section
variable {α : Type} {K : Kind α} {W W' : World} {F G : Foot} {A : Option Addr} {n : Nat} {xs : List α}
theorem RS.nil : RS K W F A 0 ([] : List α) := ⟨rfl, [], Elems.nil, fun h => absurd h (by omega)⟩
theorem RS.length (h : RS K W F A n xs) : xs.length = n := h.1
theorem RS.mono (h : RS K W F A n xs) (hG : ∀ k, F k → G k) : RS K W G A n xs := by
  obtain ⟨hl, cs, he, hc⟩ := h
  exact ⟨hl, cs, he.mono hG, fun hn => let ⟨ad, ha, hf, hu⟩ := hc hn; ⟨ad, ha, hG _ hf, hu⟩⟩
theorem RS.lt (h : RS K W F A n xs) (hn : 0 < n) : ∃ ad, A = some ad ∧ F ad.block ∧ ad.block < W.heap.size := by
  obtain ⟨hl, cs, he, hc⟩ := h
  obtain ⟨ad, ha, hf, hu⟩ := hc hn
  have hp := K.pos
  have h0 : 0 < cs.length := by rw [he.1, hl]; exact Nat.mul_pos hn hp
  have := World.block_lt_of_cell? W _ (hu 0 _ (List.getElem?_eq_getElem h0))
  rw [block_add] at this
  exact ⟨ad, ha, hf, this⟩
theorem RS.keep (h : RS K W F A n xs) (hk : ∀ k, F k → k < W.heap.size → W'.heap[k]? = W.heap[k]?) : RS K W' F A n xs := by
  have hh := h
  obtain ⟨hl, cs, he, hc⟩ := h
  refine ⟨hl, cs, he.keep hk, fun hn => ?_⟩
  obtain ⟨ad, ha, hf, hu⟩ := hc hn
  obtain ⟨ad', ha', _, hlt⟩ := hh.lt hn
  obtain rfl : ad = ad' := by rw [ha] at ha'; injection ha'
  exact ⟨ad, ha, hf, fun j u hj => (World.cell?_of_block (by rw [block_add]; exact hk _ hf hlt)).trans (hu j u hj)⟩
theorem RS.bound (h : RS K W F A n xs) : RS K W (fun k => F k ∧ k < W.heap.size) A n xs := by
  have hh := h
  obtain ⟨hl, cs, he, hc⟩ := h
  refine ⟨hl, cs, he.bound, fun hn => ?_⟩
  obtain ⟨ad, ha, hf, hu⟩ := hc hn
  obtain ⟨ad', ha', _, hlt⟩ := hh.lt hn
  obtain rfl : ad = ad' := by rw [ha] at ha'; injection ha'
  exact ⟨ad, ha, ⟨hf, hlt⟩, hu⟩
theorem RS.keeps {S : Foot} (h : RS K W F A n xs) (hk : Keeps S W W') (ha : Apart F S) : RS K W' F A n xs := h.keep fun k hf hlt => hk.block k hlt (ha k hf)
theorem RS.below (h : RS K W F A n xs) (hk : Below W.heap.size W W') : RS K W' F A n xs := h.keep fun k _ hlt => hk.block k hlt
theorem RS.drew (h : RS K W F A n xs) : RS K W.drew F A n xs := h.keep fun _ _ _ => rfl
theorem RS.drewN (h : RS K W F A n xs) (m : Nat) : RS K (W.drewN m) F A n xs := h.keep fun _ _ _ => rfl
theorem RS.alloc (h : RS K W F A n xs) (o : Obj) : RS K (W.alloc o) F A n xs := h.keep fun _ _ hlt => Below.heap_alloc _ _ _ hlt
theorem RS.far (h : RS K W F A n xs) {p : Addr} (hp : ¬ F p.block) (u : Value) : RS K (W.setCell p u) F A n xs :=
  h.keep fun _ hf _ => Below.heap_setCell _ _ _ _ (fun e => hp (by subst e; exact hf))
/-- Element i's cells. -/
theorem RS.at_ (h : RS K W F A n xs) {i : Nat} {x : α} (hx : xs[i]? = some x) :
    ∃ ad c, A = some ad ∧ F ad.block ∧ K.rep W F x c ∧ ∀ j u, c[j]? = some u → W.cell? (ad.add (i * K.size + j)) = some u := by
  obtain ⟨hl, cs, he, hc⟩ := h
  have hi : i < n := by rw [← hl]; exact (List.getElem?_eq_some_iff.1 hx).1
  obtain ⟨ad, ha, hf, hu⟩ := hc (by omega)
  obtain ⟨c, hr, hcs⟩ := he.at_ hx
  exact ⟨ad, c, ha, hf, hr, fun j u hj => hu _ u (hcs j u hj)⟩
theorem RS.take_ (h : RS K W F A n xs) (i : Nat) (hi : i ≤ n) : RS K W F A i (xs.take i) := by
  obtain ⟨hl, cs, he, hc⟩ := h
  refine ⟨by rw [List.length_take]; omega, _, he.take_ i, fun hp => ?_⟩
  obtain ⟨ad, ha, hf, hu⟩ := hc (by omega)
  refine ⟨ad, ha, hf, fun j u hj => hu j u ?_⟩
  rw [List.getElem?_take] at hj
  split at hj
  · exact hj
  · simp at hj
theorem RS.drop_ (h : RS K W F A n xs) (i : Nat) (hi : i ≤ n) (c : Nat) (hc' : n ≤ c) : RS K W F (if c = i then A else A.map (·.add (i * K.size))) (n - i) (xs.drop i) := by
  obtain ⟨hl, cs, he, hc⟩ := h
  refine ⟨by rw [List.length_drop]; omega, _, he.drop_ i, fun hp => ?_⟩
  obtain ⟨ad, rfl, hf, hu⟩ := hc (by omega)
  rw [if_neg (by omega)]
  refine ⟨_, rfl, by rw [block_add]; exact hf, fun j u hj => ?_⟩
  rw [List.getElem?_drop] at hj
  rw [add_add]
  exact hu _ u hj
end

/-! ### A slice that is owned: its row, and what lies behind it apart from the row -/
def OwnS {α : Type} (K : Kind α) (e : TypeId) (W : World) (F : Foot) (v : Value) (xs : List α) : Prop :=
  ∃ cs, W.ownsRow 0 e K.size v xs.length cs ∧ Elems K W (fun k => F k ∧ v.ownBlock ≠ some k) xs cs ∧ ∀ k, v.ownBlock = some k → F k

section
variable {α : Type} {K : Kind α} {e : TypeId} {W W' : World} {F G : Foot} {v : Value} {xs : List α}
theorem OwnS.nil : OwnS K e W F (.slice none 0 0) [] := ⟨[], World.ownsRow_nil W 0 e K.size, Elems.nil, fun k h => by simp [Value.ownBlock] at h⟩
theorem OwnS.mono (h : OwnS K e W F v xs) (hG : ∀ k, F k → G k) : OwnS K e W G v xs := by
  obtain ⟨cs, h1, h2, h3⟩ := h
  exact ⟨cs, h1, h2.mono fun k hk => ⟨hG k hk.1, hk.2⟩, fun k hk => hG k (h3 k hk)⟩
theorem OwnS.keep (h : OwnS K e W F v xs) (hs : W.heap.size ≤ W'.heap.size) (hk : ∀ k, F k → k < W.heap.size → W'.heap[k]? = W.heap[k]?) : OwnS K e W' F v xs := by
  obtain ⟨cs, h1, h2, h3⟩ := h
  refine ⟨cs, ⟨h1.1, ?_⟩, h2.keep fun k hf hlt => hk k hf.1 hlt, h3⟩
  rcases h1.2 with h | ⟨g, cap, cur, hv, hb, hh, r⟩
  · exact .inl h
  · refine .inr ⟨g, cap, cur, hv, hb, ?_, r⟩
    rw [hk g (h3 g (by rw [hv]; rfl)) (Array.getElem?_eq_some_iff.1 hh).1]
    exact hh
theorem OwnS.keeps {S : Foot} (h : OwnS K e W F v xs) (hk : Keeps S W W') (ha : Apart F S) : OwnS K e W' F v xs := h.keep hk.size fun k hf hlt => hk.block k hlt (ha k hf)
theorem OwnS.below (h : OwnS K e W F v xs) (hk : Below W.heap.size W W') : OwnS K e W' F v xs := h.keep hk.size fun k _ hlt => hk.block k hlt
theorem OwnS.bound (h : OwnS K e W F v xs) : OwnS K e W (fun k => F k ∧ k < W.heap.size) v xs := by
  obtain ⟨cs, h1, h2, h3⟩ := h
  refine ⟨cs, h1, h2.bound.mono fun k hk => ⟨⟨hk.1.1, hk.2⟩, hk.1.2⟩, fun k hk => ⟨h3 k hk, (h1.lt k hk).2⟩⟩
theorem OwnS.slice (h : OwnS K e W F v xs) : ∃ A c, v = .slice A xs.length c ∧ xs.length ≤ c ∧ c ≤ 9223372036854775807 := by
  obtain ⟨cs, h1, h2, h3⟩ := h
  rcases h1.2 with ⟨rfl, h0⟩ | ⟨g, cap, cur, rfl, _, _, h4, h5, _⟩
  · exact ⟨none, 0, by rw [h0], by omega, by omega⟩
  · exact ⟨_, cap, rfl, h4, by simpa [maxLen] using h5⟩
theorem OwnS.shape (h : OwnS K e W F v xs) : ∃ A n c, v = .slice A n c := by
  obtain ⟨A, c, h, _⟩ := h.slice
  exact ⟨A, _, c, h⟩
theorem OwnS.reads (h : OwnS K e W F v xs) : ∃ A c, v = .slice A xs.length c ∧ xs.length ≤ c ∧ c ≤ 9223372036854775807 ∧ RS K W F A xs.length xs := by
  obtain ⟨A, c, hv, hc, hm⟩ := h.slice
  obtain ⟨cs, h1, h2, h3⟩ := h
  refine ⟨A, c, hv, hc, hm, rfl, cs, h2.mono fun _ hk => hk.1, fun hn => ?_⟩
  rcases h1.2 with ⟨rfl, h0⟩ | ⟨g, cap, cur, he, _⟩
  · omega
  · subst he
    injection hv with hA _ _
    subst hA
    exact ⟨_, rfl, h3 g rfl, h1.cells (g := g) rfl⟩
end

/-- What leads nowhere. -/
def Flat {α : Type} (K : Kind α) : Prop := ∀ W F x cs W' G, K.rep W F x cs → K.rep W' G x cs
theorem OwnS.flat {α : Type} {K : Kind α} (hf : Flat K) {e : TypeId} {W : World} {F G : Foot} {v : Value} {xs : List α} (h : OwnS K e W F v xs) (hG : ∀ k, v.ownBlock = some k → G k) : OwnS K e W G v xs := by
  obtain ⟨cs, h1, h2, _⟩ := h
  exact ⟨cs, h1, ⟨h2.1, fun j x hx => hf _ _ _ _ _ _ (h2.2 j x hx)⟩, hG⟩

/-! ### Plain kinds -/
def kInt (k : IntKind) : Kind Int where
  size := 1
  pos := by omega
  rep := fun _ _ x cs => cs = [.int k x]
  len := by rintro W F x cs rfl; rfl
  one := by rintro W F x cs rfl u hu; simp at hu; subst hu; rfl
  mono := fun h _ => h
  keep := fun h _ => h
  bound := fun h => h
def kBool : Kind Bool where
  size := 1
  pos := by omega
  rep := fun _ _ x cs => cs = [.bool x]
  len := by rintro W F x cs rfl; rfl
  one := by rintro W F x cs rfl u hu; simp at hu; subst hu; rfl
  mono := fun h _ => h
  keep := fun h _ => h
  bound := fun h => h
def kString : Kind ByteArray where
  size := 1
  pos := by omega
  rep := fun _ _ x cs => cs = [.string x]
  len := by rintro W F x cs rfl; rfl
  one := by rintro W F x cs rfl u hu; simp at hu; subst hu; rfl
  mono := fun h _ => h
  keep := fun h _ => h
  bound := fun h => h
theorem flat_int (k : IntKind) : Flat (kInt k) := fun _ _ _ _ _ _ h => h
theorem flat_bool : Flat kBool := fun _ _ _ _ _ _ h => h
theorem flat_string : Flat kString := fun _ _ _ _ _ _ h => h
def repSlice {α : Type} (K : Kind α) (W : World) (F : Foot) (xs : List α) (cs : List Value) : Prop :=
  ∃ (A : Option Addr) (c : Nat), cs = [.slice A xs.length c] ∧ xs.length ≤ c ∧ c ≤ 9223372036854775807 ∧ RS K W F A xs.length xs
def kSlice {α : Type} (K : Kind α) : Kind (List α) where
  size := 1
  pos := by omega
  rep := repSlice K
  len := by rintro W F x cs ⟨A, c, rfl, _⟩; rfl
  one := by rintro W F x cs ⟨A, c, rfl, _⟩ u hu; simp at hu; subst hu; rfl
  mono := by rintro W F G x cs ⟨A, c, rfl, l, m, r⟩ hG; exact ⟨A, c, rfl, l, m, r.mono hG⟩
  keep := by rintro W W1 F x cs ⟨A, c, rfl, l, m, r⟩ hk; exact ⟨A, c, rfl, l, m, r.keep hk⟩
  bound := by rintro W F x cs ⟨A, c, rfl, l, m, r⟩; exact ⟨A, c, rfl, l, m, r.bound⟩
theorem at_int {k : IntKind} {W : World} {F : Foot} {A : Option Addr} {n : Nat} {xs : List Int} (h : RS (kInt k) W F A n xs) {i : Nat} {x : Int} (hx : xs[i]? = some x) :
    ∃ ad : Addr, A = some ad ∧ F ad.block ∧ W.cell? (ad.add i) = some (.int k x) := by
  obtain ⟨ad, c, hA, hF, rfl, hc⟩ := h.at_ hx
  exact ⟨ad, hA, hF, by have := hc 0 _ rfl; rwa [show i * (kInt k).size + 0 = i from by show i * 1 + 0 = i; omega] at this⟩
theorem at_bool {W : World} {F : Foot} {A : Option Addr} {n : Nat} {xs : List Bool} (h : RS kBool W F A n xs) {i : Nat} {x : Bool} (hx : xs[i]? = some x) :
    ∃ ad : Addr, A = some ad ∧ F ad.block ∧ W.cell? (ad.add i) = some (.bool x) := by
  obtain ⟨ad, c, hA, hF, rfl, hc⟩ := h.at_ hx
  exact ⟨ad, hA, hF, by have := hc 0 _ rfl; rwa [show i * kBool.size + 0 = i from by show i * 1 + 0 = i; omega] at this⟩
theorem at_string {W : World} {F : Foot} {A : Option Addr} {n : Nat} {xs : List ByteArray} (h : RS kString W F A n xs) {i : Nat} {x : ByteArray} (hx : xs[i]? = some x) :
    ∃ ad : Addr, A = some ad ∧ F ad.block ∧ W.cell? (ad.add i) = some (.string x) := by
  obtain ⟨ad, c, hA, hF, rfl, hc⟩ := h.at_ hx
  exact ⟨ad, hA, hF, by have := hc 0 _ rfl; rwa [show i * kString.size + 0 = i from by show i * 1 + 0 = i; omega] at this⟩
end Go.Proofs.Ytikpbhhnllchmaa
