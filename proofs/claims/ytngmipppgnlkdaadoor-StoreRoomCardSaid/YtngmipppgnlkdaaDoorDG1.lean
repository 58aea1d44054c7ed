/- Lots: Next, of both. -/
import Derived.Test.YtngmipppgnlkdaaDoorR2
import Derived.Test.YtngmipppgnlkdaaDoorT
import Derived.Test.YtngmipppgnlkdaaDoorProg
import Derived.Lib.Hide
set_option linter.unusedVariables false
set_option linter.unusedSimpArgs false
namespace Go.Proofs.YtngmipppgnlkdaaDoor
open Go.RowKit

def lotStep (st : Int) : Int := (st * 1664525 + 1013904223) % 4294967296
def lotVal (st n : Int) : Int := if n < 1 then 0 else (st / 256) % n
def LotOk (st : Int) : Prop := 0 ≤ st ∧ st < 4294967296
theorem lotStep_ok (st : Int) : LotOk (lotStep st) := by unfold LotOk lotStep; omega
theorem lotVal_nonneg (st n : Int) : 0 ≤ lotVal st n := by
  unfold lotVal
  split
  · omega
  · exact Int.emod_nonneg _ (by omega)
theorem lotVal_lt (st n : Int) (h : 1 ≤ n) : lotVal st n < n := by
  unfold lotVal
  rw [if_neg (by omega)]
  exact Int.emod_lt_of_pos _ (by omega)
theorem i64_and32 (n : Int) : bits .and .i64 n 4294967295 = n % 4294967296 := by
  have h3 : (BitVec.ofInt 64 4294967295).toNat = 2 ^ 32 - 1 := by decide
  have key : (BitVec.ofInt 64 n &&& BitVec.ofInt 64 4294967295).toNat = (n % ((2 ^ 64 : Nat) : Int)).toNat % 2 ^ 32 := by
    rw [BitVec.toNat_and, BitVec.toNat_ofInt, h3, Nat.and_two_pow_sub_one_eq_mod]
  show IntKind.i64.wrap ((BitVec.ofInt 64 n &&& BitVec.ofInt 64 4294967295).toNat : Nat) = n % 4294967296
  rw [key, IntKind.wrap_i64]
  omega

/-- A lot of state st at block g (T: its type's number). -/
def LotAt (T : TypeId) (W : World) (g : Nat) (st : Int) : Prop := W.heap[g]? = some (.cells #[.int .i64 st] T (0, 0))
theorem LotAt.lt {T : TypeId} {W : World} {g : Nat} {st : Int} (h : LotAt T W g st) : g < W.heap.size := (Array.getElem?_eq_some_iff.1 h).1
theorem LotAt.below {T : TypeId} {W W' : World} {g : Nat} {st : Int} (h : LotAt T W g st) (hb : Below W.heap.size W W') : LotAt T W' g st := (hb.block g h.lt).trans h
theorem LotAt.keeps {T : TypeId} {W W' : World} {g : Nat} {st : Int} {S : Foot} (h : LotAt T W g st) (hb : Keeps S W W') (hS : ¬ S g) : LotAt T W' g st := (hb.block g h.lt hS).trans h
def LotPost (T : TypeId) (g : Nat) (st n : Int) (w : World) (e : Ending) (w' : World) : Prop :=
  e = .returned (.int .i64 (lotVal (lotStep st) n)) ∧ LotAt T w' g (lotStep st) ∧ Keeps (fun k => k = g) w w' ∧ w'.heap.size = w.heap.size

theorem LotAt.set {T : TypeId} {W : World} {g : Nat} {st : Int} (h : LotAt T W g st) (st' : Int) : LotAt T (W.setCell ⟨g, 0, none⟩ (.int .i64 st')) g st' :=
  (heap_setCell_same W g 0 _ _ _ h).trans rfl

set_option maxHeartbeats 1000000 in
theorem Next_any (g : Nat) (st n : Int) (w : World) (h : LotAt 77 w g st) (ok : LotOk st) :
    Calls Tryd.prog 18 #[.pointer (some ⟨g, 0, none⟩), .int .i64 n] w (LotPost 77 g st n w) := by
  have h0 : w.cell? ⟨g, 0, none⟩ = some (.int .i64 st) := cell_of_row w g 0 _ _ _ h
  have hf : w.frozen? ⟨g, 0, none⟩ = false := frozen_of_row w g 0 _ _ h
  obtain ⟨o1, o2⟩ := ok
  have e1 := i64_and32 (st * 1664525 + 1013904223)
  obtain ⟨s', hs'⟩ : ∃ s', Hid (lotStep st = s') := ⟨_, rfl⟩
  have hok' := lotStep_ok st
  unfold LotPost
  rw [hs'.out] at hok' ⊢
  rw [show (st * 1664525 + 1013904223) % 4294967296 = s' from hs'.out] at e1
  obtain ⟨k1, k2⟩ := hok'
  have H := Lib.hid h
  clear h
  have hK : Keeps (fun k => k = g) w (w.setCell ⟨g, 0, none⟩ (.int .i64 s')) := (Keeps.refl (fun k => k = g) w).setCell (p := ⟨g, 0, none⟩) (fun _ => rfl) _
  have hsz : (w.setCell ⟨g, 0, none⟩ (.int .i64 s')).heap.size = w.heap.size := World.size_setCell ..
  have HH := Lib.hid (And.intro hK hsz)
  clear hK hsz
  by_cases hn : n < 1
  · have hv : lotVal s' n = 0 := by unfold lotVal; rw [if_pos hn]
    rw [hv]
    clear hv
    go_enter Tryd.func18, Tryd.ntmps18
    go_wp2
    go_ret
    exact ⟨rfl, H.out.set s', HH.out.1, HH.out.2⟩
  · have hv : lotVal s' n = s' / 256 % n := by unfold lotVal; rw [if_neg hn]
    rw [hv]
    clear hv
    go_enter Tryd.func18, Tryd.ntmps18
    go_wp2
    go_ret
    exact ⟨rfl, H.out.set s', HH.out.1, HH.out.2⟩

set_option maxHeartbeats 1000000 in
theorem RNext_any (g : Nat) (st n : Int) (w : World) (h : LotAt 79 w g st) (ok : LotOk st) :
    Calls Tryd.prog 19 #[.pointer (some ⟨g, 0, none⟩), .int .i64 n] w (LotPost 79 g st n w) := by
  have h0 : w.cell? ⟨g, 0, none⟩ = some (.int .i64 st) := cell_of_row w g 0 _ _ _ h
  have hf : w.frozen? ⟨g, 0, none⟩ = false := frozen_of_row w g 0 _ _ h
  obtain ⟨o1, o2⟩ := ok
  have e1 := i64_and32 (st * 1664525 + 1013904223)
  obtain ⟨s', hs'⟩ : ∃ s', Hid (lotStep st = s') := ⟨_, rfl⟩
  have hok' := lotStep_ok st
  unfold LotPost
  rw [hs'.out] at hok' ⊢
  rw [show (st * 1664525 + 1013904223) % 4294967296 = s' from hs'.out] at e1
  obtain ⟨k1, k2⟩ := hok'
  have H := Lib.hid h
  clear h
  have hK : Keeps (fun k => k = g) w (w.setCell ⟨g, 0, none⟩ (.int .i64 s')) := (Keeps.refl (fun k => k = g) w).setCell (p := ⟨g, 0, none⟩) (fun _ => rfl) _
  have hsz : (w.setCell ⟨g, 0, none⟩ (.int .i64 s')).heap.size = w.heap.size := World.size_setCell ..
  have HH := Lib.hid (And.intro hK hsz)
  clear hK hsz
  by_cases hn : n < 1
  · have hv : lotVal s' n = 0 := by unfold lotVal; rw [if_pos hn]
    rw [hv]
    clear hv
    go_enter Tryd.func19, Tryd.ntmps19
    go_wp2
    go_ret
    exact ⟨rfl, H.out.set s', HH.out.1, HH.out.2⟩
  · have hv : lotVal s' n = s' / 256 % n := by unfold lotVal; rw [if_neg hn]
    rw [hv]
    clear hv
    go_enter Tryd.func19, Tryd.ntmps19
    go_wp2
    go_ret
    exact ⟨rfl, H.out.set s', HH.out.1, HH.out.2⟩

theorem New_any (seed : Int) (w : World) :
    Calls Tryd.prog 16 #[.int .i64 seed] w fun e w' => e = .returned (.pointer (some ⟨w.heap.size, 0, none⟩)) ∧ LotAt 77 w' w.heap.size (seed % 4294967296) ∧ Below w.heap.size w w' ∧ w'.heap.size = w.heap.size + 1 := by
  have e1 := i64_and32 seed
  generalize seed % 4294967296 = s' at e1 ⊢
  go_enter Tryd.func16, Tryd.ntmps16
  go_wp2
  go_ret
  exact ⟨rfl, heap_alloc_new w _, (Below.refl _ _).alloc (Nat.le_refl _) _, by simp⟩
theorem RNew_any (seed : Int) (w : World) :
    Calls Tryd.prog 17 #[.int .i64 seed] w fun e w' => e = .returned (.pointer (some ⟨w.heap.size, 0, none⟩)) ∧ LotAt 79 w' w.heap.size (seed % 4294967296) ∧ Below w.heap.size w w' ∧ w'.heap.size = w.heap.size + 1 := by
  have e1 := i64_and32 seed
  generalize seed % 4294967296 = s' at e1 ⊢
  go_enter Tryd.func17, Tryd.ntmps17
  go_wp2
  go_ret
  exact ⟨rfl, heap_alloc_new w _, (Below.refl _ _).alloc (Nat.le_refl _) _, by simp⟩
theorem lot0_ok (seed : Int) : LotOk (seed % 4294967296) := by unfold LotOk; omega
end Go.Proofs.YtngmipppgnlkdaaDoor
