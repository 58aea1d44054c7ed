/- What the texts on disks, stores and bytes share. -/
import Derived.Test.YtfjndjbpgcggkaaDoorDK1
import Derived.Test.YtfjndjbpgcggkaaDoorDN4
import Derived.Test.YtfjndjbpgcggkaaDoorR
import Derived.Test.YtfjndjbpgcggkaaDoorMG1
import Derived.Test.YtfjndjbpgcggkaaDoorDS1
import Derived.OwnWalk
import Derived.Laws.BytesArg
import Derived.Lib.SlBytesConst
set_option linter.unusedVariables false
set_option linter.unusedSimpArgs false
namespace Go.Proofs.YtfjndjbpgcggkaaDoor
open Go.RowKit

theorem tInts : ElemT Tryd.prog 35 3 1 8 := ElemT.mk' (z := .int .i64 0) Tryd.underlying35 (by kernel_rfl) rfl
theorem below_drewN {w w' : World} (h : Below w.heap.size w w') (n : Nat) : Below w.heap.size w (w'.drewN n) := ⟨h.os, h.tape, h.output, h.size, h.block⟩
structure Env (B : Nat) (w : World) : Prop where
  tabs : TabsBelow B w
  le : B ≤ w.heap.size
theorem Env.now {B : Nat} {w : World} (h : Env B w) : TabsBelow w.heap.size w := fun w' hw => h.tabs w' (hw.mono h.le)
theorem Env.step {B : Nat} {w w' : World} (h : Env B w) (hb : Below B w w') : Env B w' := ⟨fun w2 h2 => h.tabs w2 (hb.trans h2), Nat.le_trans h.le hb.size⟩
theorem Keeps.below_at {S : Foot} {B : Nat} {w w' : World} (h : Keeps S w w') (hB : B ≤ w.heap.size) (hs : ∀ k, S k → B ≤ k) : Below B w w' :=
  ⟨h.os, h.tape, h.output, h.size, fun k hk => h.block k (by omega) (fun hS => by have := hs k hS; omega)⟩

theorem RS.str {P : Program} {W : World} {F : Foot} {A : Option Addr} {n : Nat} {xs : List Int} (h : RS (kInt .u8) W F A n xs) (src dst e c : Nat) (hs : P.underlying src = some (.slice e)) (he : P.underlying e = some (.int .u8)) (hd : P.underlying dst = some .string) :
    (convert src dst (.slice A n c)).run P W = .ok (.string (strOfNums xs)) W := by
  cases A with
  | none =>
    have h0 : n = 0 := by
      rcases Nat.eq_zero_or_pos n with h0 | h0
      · exact h0
      · obtain ⟨ad, h, _⟩ := h.lt h0
        cases h
    subst h0
    obtain rfl : xs = [] := List.eq_nil_of_length_eq_zero h.1
    exact run_convert_bytes_nil W src e hs he 0 c dst hd
  | some ad =>
    have hl : (loadCells ad n).run P W = .ok (xs.map (Value.int .u8)).toArray W := by
      have := run_loadCells_list (P := P) W ad (xs.map (Value.int .u8)) (fun j v hj => by
        rw [List.getElem?_map] at hj
        obtain ⟨x, hx, rfl⟩ := Option.map_eq_some_iff.1 hj
        obtain ⟨ad', hA0, hFa, k0⟩ := at_int h hx
        injection hA0 with hA0
        subst hA0
        exact k0)
      simpa [h.1] using this
    rw [run_convert_bytes_string W src dst e _ n c hs he hd, run_bytesToString W _ n c xs hl, foldl_push_bytes]
    simp [strOfNums, ByteArray.empty, ByteArray.emptyWithCapacity]
    rfl

theorem lit1 (k : IntKind) (T : TypeId) (W : World) (x : Int) : RS (kInt k) (W.alloc (.cells #[.int k x] T)) (fun j => j = W.heap.size) (some ⟨W.heap.size, 0, none⟩) 1 [x] :=
  (RS.lit W (F := NoF) (xs := [x]) (Elems.single (K := kInt k) rfl)).mono fun j hj => hj.resolve_left id
end Go.Proofs.YtfjndjbpgcggkaaDoor
