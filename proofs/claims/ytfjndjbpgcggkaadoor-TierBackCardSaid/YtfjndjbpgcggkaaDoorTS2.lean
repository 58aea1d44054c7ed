/- A store in memory: what it holds. -/
import Derived.Test.YtfjndjbpgcggkaaDoorKB
import Derived.Test.YtfjndjbpgcggkaaDoorProg
set_option linter.unusedVariables false
set_option linter.unusedSimpArgs false
namespace Go.Proofs.YtfjndjbpgcggkaaDoor
open Go.RowKit

/-- What a store holds: names and bytes, in the order in which they came. -/
abbrev SObjs := Objs (List Int)
/-- A slice value that reads as bytes. -/
def RV (W : World) (F : Foot) (v : Value) (b : List Int) : Prop :=
  ∃ (A : Option Addr) (c : Nat), v = .slice A b.length c ∧ b.length ≤ c ∧ c ≤ 9223372036854775807 ∧ RS (kInt .u8) W F A b.length b
theorem RV.keep {W W' : World} {F : Foot} {v : Value} {b : List Int} (h : RV W F v b) (hk : ∀ k, F k → k < W.heap.size → W'.heap[k]? = W.heap[k]?) : RV W' F v b := by
  obtain ⟨A, c, h1, h2, h3, h4⟩ := h
  exact ⟨A, c, h1, h2, h3, h4.keep hk⟩
theorem RV.mono {W : World} {F G : Foot} {v : Value} {b : List Int} (h : RV W F v b) (hG : ∀ k, F k → G k) : RV W G v b := by
  obtain ⟨A, c, h1, h2, h3, h4⟩ := h
  exact ⟨A, c, h1, h2, h3, h4.mono hG⟩
theorem RV.bound {W : World} {F : Foot} {v : Value} {b : List Int} (h : RV W F v b) : RV W (fun k => F k ∧ k < W.heap.size) v b := by
  obtain ⟨A, c, h1, h2, h3, h4⟩ := h
  exact ⟨A, c, h1, h2, h3, h4.bound⟩
theorem RV.of_own {e : TypeId} {W : World} {F : Foot} {v : Value} {b : List Int} (h : OwnS (kInt .u8) e W F v b) : RV W F v b := by
  obtain ⟨A, c, h1, h2, h3, h4⟩ := h.reads
  exact ⟨A, c, h1, h2, h3, h4⟩
def kBytes : VKind (List Int) where
  rep := fun W F x v => RV W F v x
  mono := fun h hG => h.mono hG
  keep := fun h hk => h.keep hk
  bound := fun h => h.bound
theorem mStore : MapT Tryd.prog 152 9 26 (.slice none 0 0) := ⟨Tryd.underlying152, Tryd.underlying9, fun w => by kernel_rfl⟩

/-! ### The store -/
structure StoreIn (W : World) (F : Foot) (sb mb clock : Nat) (m : Ents) (fv : Value) (room : Int) (bad : List Int) (c : SObjs) : Prop where
  cells : W.heap[sb]? = some (.cells #[.map (some mb), .int .i64 room, .int .i64 (osum List.length c), fv] 154 (0, 0))
  map : W.heap[mb]? = some (.map (ents m).toArray clock)
  fs : F sb
  fm : F mb
  q : Queue 3 W (fun k => F k ∧ k ≠ sb ∧ k ≠ mb) fv bad
  e : EntsR kBytes W (fun k => F k ∧ k ≠ sb ∧ k ≠ mb ∧ fv.ownBlock ≠ some k) m c
  len : ∀ y ∈ c, y.2.length ≤ 1000000000000
  wf : EWf m clock
  nd : (c.map (·.1)).Nodup
def StoreAt (W : World) (F : Foot) (sb : Nat) (room : Int) (bad : List Int) (c : SObjs) : Prop := ∃ mb clock m fv, StoreIn W F sb mb clock m fv room bad c
section
variable {W W' : World} {F G : Foot} {sb mb clock : Nat} {m : Ents} {fv : Value} {room : Int} {bad : List Int} {c : SObjs}
theorem StoreIn.slt (h : StoreIn W F sb mb clock m fv room bad c) : sb < W.heap.size := (Array.getElem?_eq_some_iff.1 h.cells).1
theorem StoreIn.mlt (h : StoreIn W F sb mb clock m fv room bad c) : mb < W.heap.size := (Array.getElem?_eq_some_iff.1 h.map).1
theorem StoreIn.ne (h : StoreIn W F sb mb clock m fv room bad c) : sb ≠ mb := by
  rintro rfl
  have := h.cells.symm.trans h.map
  cases this
theorem StoreIn.keep (h : StoreIn W F sb mb clock m fv room bad c) (hk : ∀ k, F k → k < W.heap.size → W'.heap[k]? = W.heap[k]?) : StoreIn W' F sb mb clock m fv room bad c :=
  ⟨(hk sb h.fs h.slt).trans h.cells, (hk mb h.fm h.mlt).trans h.map, h.fs, h.fm, h.q.keep fun k hf hl => hk k hf.1 hl, h.e.keep fun k hf hl => hk k hf.1 hl, h.len, h.wf, h.nd⟩
theorem StoreIn.mono (h : StoreIn W F sb mb clock m fv room bad c) (hG : ∀ k, F k → G k) : StoreIn W G sb mb clock m fv room bad c :=
  ⟨h.cells, h.map, hG _ h.fs, hG _ h.fm, h.q.mono fun k hk => ⟨hG k hk.1, hk.2⟩, h.e.mono fun k hk => ⟨hG k hk.1, hk.2⟩, h.len, h.wf, h.nd⟩
theorem StoreIn.bound (h : StoreIn W F sb mb clock m fv room bad c) : StoreIn W (fun k => F k ∧ k < W.heap.size) sb mb clock m fv room bad c :=
  ⟨h.cells, h.map, ⟨h.fs, h.slt⟩, ⟨h.fm, h.mlt⟩, h.q.bound.mono fun k hk => ⟨⟨hk.1.1, hk.2⟩, hk.1.2⟩, h.e.bound.mono fun k hk => ⟨⟨hk.1.1, hk.2⟩, hk.1.2⟩, h.len, h.wf, h.nd⟩
theorem StoreAt.lt (h : StoreAt W F sb room bad c) : sb < W.heap.size := by obtain ⟨_, _, _, _, h⟩ := h; exact h.slt
theorem StoreAt.keep (h : StoreAt W F sb room bad c) (hk : ∀ k, F k → k < W.heap.size → W'.heap[k]? = W.heap[k]?) : StoreAt W' F sb room bad c := by
  obtain ⟨_, _, _, _, h⟩ := h; exact ⟨_, _, _, _, h.keep hk⟩
theorem StoreAt.keeps {S : Foot} (h : StoreAt W F sb room bad c) (hk : Keeps S W W') (ha : Apart F S) : StoreAt W' F sb room bad c := h.keep fun k hf hlt => hk.block k hlt (ha k hf)
theorem StoreAt.below (h : StoreAt W F sb room bad c) (hk : Below W.heap.size W W') : StoreAt W' F sb room bad c := h.keep fun k _ hlt => hk.block k hlt
theorem StoreAt.mono (h : StoreAt W F sb room bad c) (hG : ∀ k, F k → G k) : StoreAt W G sb room bad c := by
  obtain ⟨_, _, _, _, h⟩ := h; exact ⟨_, _, _, _, h.mono hG⟩
theorem StoreAt.bound (h : StoreAt W F sb room bad c) : StoreAt W (fun k => F k ∧ k < W.heap.size) sb room bad c := by
  obtain ⟨_, _, _, _, h⟩ := h; exact ⟨_, _, _, _, h.bound⟩
end

end Go.Proofs.YtfjndjbpgcggkaaDoor
