/- disk.List: the names, in ascending order. -/
import Derived.Test.YtfjndjbpgcggkaaDoorDK7
import Derived.Test.YtfjndjbpgcggkaaDoorDK6
import Derived.OwnWalk
set_option linter.unusedVariables false
set_option linter.unusedSimpArgs false
namespace Go.Proofs.YtfjndjbpgcggkaaDoor
open Go.RowKit

theorem tStrings : ElemT Tryd.prog 41 9 1 16 := ElemT.mk' (z := .string ⟨#[]⟩) Tryd.underlying41 (by kernel_rfl) rfl

theorem listU8_trans (a b c : List UInt8) (h1 : decide (a ≤ b) = true) (h2 : decide (b ≤ c) = true) : decide (a ≤ c) = true := by
  rw [decide_eq_true_eq] at *
  exact List.le_trans h1 h2
theorem listU8_total (a b : List UInt8) : (decide (a ≤ b) || decide (b ≤ a)) = true := by
  rw [Bool.or_eq_true, decide_eq_true_eq, decide_eq_true_eq]
  exact List.le_total a b
theorem perm_eq_of_sorted {α : Type} (r : α → α → Prop) (anti : ∀ a b, r a b → r b a → a = b) : ∀ {l1 l2 : List α}, l1.Perm l2 → l1.Pairwise r → l2.Pairwise r → l1 = l2
  | [], l2, h, _, _ => (List.nil_perm.1 h).symm
  | a :: l1, [], h, _, _ => absurd h.length_eq (by simp)
  | a :: l1, b :: l2, h, h1, h2 => by
    rw [List.pairwise_cons] at h1 h2
    have ha : a ∈ b :: l2 := h.mem_iff.1 List.mem_cons_self
    have hb : b ∈ a :: l1 := h.mem_iff.2 List.mem_cons_self
    have hab : a = b := by
      rcases List.mem_cons.1 ha with h | h
      · exact h
      · rcases List.mem_cons.1 hb with h' | h'
        · exact h'.symm
        · exact anti a b (h1.1 b h') (h2.1 a h)
    subst hab
    rw [perm_eq_of_sorted r anti h.cons_inv h1.2 h2.2]
theorem sortB_perm {xs ys : List ByteArray} (h : xs.Perm ys) : sortB xs = sortB ys := by
  unfold sortB
  congr 1
  refine perm_eq_of_sorted (fun x y => decide (x ≤ y) = true) (fun a b h1 h2 => ?_) ?_ (List.pairwise_mergeSort listU8_trans listU8_total _) (List.pairwise_mergeSort listU8_trans listU8_total _)
  · rw [decide_eq_true_eq] at h1 h2
    exact List.le_antisymm h1 h2
  · exact (List.mergeSort_perm _ _).trans ((h.map _).trans (List.mergeSort_perm _ _).symm)
/-- The names of what is there, ascending. -/
def dkeys (c : FObjs) : List ByteArray := sortB (c.map (·.1))

set_option maxHeartbeats 4000000 in
set_option maxRecDepth 100000 in
theorem dList_any (db : Nat) (w : World) (F : Foot) (room : Int) (c : FObjs) (h : DiskAt w F db room c) (hn : c.length ≤ 1000000000) :
    Calls Tryd.prog 23 #[.pointer (some ⟨db, 0, none⟩)] w fun e w' => ∃ v, e = .returned v ∧ Made kString 9 w w' (New w w') v (dkeys c) := by
  obtain ⟨mb, clock, m, h⟩ := h
  have hslt := h.slt
  have hmlt := h.mlt
  have c0 : w.cell? ⟨db, 0, none⟩ = some (.map (some mb)) := cell_of_row w db 0 _ _ _ h.cells
  have hst := range_start mDisk w mb clock m h.map
  have hkeys := h.e.keys
  have hml : m.length = c.length := by have := congrArg List.length hkeys; simpa using this
  have H := Lib.hid h
  have HK := Lib.hid (And.intro hkeys hml)
  clear h hkeys hml
  go_enter Tryd.func23, Tryd.ntmps23
  go_wp2
  go_loopw [3] (fun v wr => ∃ (vis : Ents) (A : Option Addr) (n cp : Nat), v = .slice A n cp ∧ Hid (n = vis.length) ∧ Visits m vis ∧ IterAt wr w.heap.size mb clock vis ∧ OwnS kString 9 wr (fun k => w.heap.size < k) (.slice A n cp) (vis.map (·.1)) ∧ Below w.heap.size w wr) (fun v _ => m.length - (match v with | .slice _ n _ => n | _ => 0))
  case atStart =>
    exact ⟨[], none, 0, 0, rfl, rfl, Visits.nil m, heap_alloc_new w _, OwnS.nil, (Below.refl _ _).alloc (Nat.le_refl _) _⟩
  case round =>
    obtain ⟨vis, A, n, cp, rfl, hnl, hV, hI, hO, hB⟩ := hrel
    have hmr : wr.heap[mb]? = some (.map (ents m).toArray clock) := (hB.block mb hmlt).trans H.out.map
    have hle := visits_le hV
    have hrlt : w.heap.size < wr.heap.size := (Array.getElem?_eq_some_iff.1 hI).1
    rcases range_next (P := Tryd.prog) wr w.heap.size mb clock m vis H.out.wf hV hI hmr with ⟨hfull, hrun⟩ | ⟨x, hx, w2, hrun, hV2, hI2, hent, hK2, hs2⟩
    · have hperm := visits_full H.out.wf hV hfull
      have hke : sortB (vis.map (·.1)) = dkeys c := by
        unfold dkeys
        rw [← HK.out.1]
        exact sortB_perm (hperm.map _)
      have HKE := Lib.hid hke
      have hvl : vis.length ≤ 1000000000 := by have := HK.out.2; omega
      clear hfull hperm hke hmr
      go_wp2_with fail
      refine (sort_own _ (vis.map (·.1)) wr _ hO (by simp; omega)).mono ?_
      rintro e w3 ⟨rfl, hO3, hK3⟩
      rw [HKE.out] at hO3
      have HO3 := Lib.hid (And.intro hO3 hK3)
      clear hO3 hK3
      go_wp2
      go_ret
      obtain ⟨hO3, hK3⟩ := HO3.out
      refine ⟨_, rfl, hO3.flat flat_string fun k hk => ?_, fun k hk => by have := (hO3.lt k hk).1; omega, ?_⟩
      · have := hO3.lt k hk
        exact ⟨by have := this.1; omega, this.2⟩
      · exact hB.trans (hK3.below_of hB.size fun k hk => by have := (hO.lt k hk).1; omega)
    · have hr2 : RS kString (w2.alloc (.cells #[Value.string x.1] 9)) (fun k => k = w2.heap.size) (some ⟨w2.heap.size, 0, none⟩) 1 [x.1] :=
        (RS.lit (K := kString) (F := NoF) w2 (xs := [x.1]) (cs := #[Value.string x.1]) (Elems.single (K := kString) (W := w2) (F := NoF) (x := x.1) (cs := [Value.string x.1]) rfl)).mono fun k hk => hk.resolve_left id
      have hO2 := hO.keeps hK2 (fun k hk hk2 => by have : k = w.heap.size := hk2; have : w.heap.size < k := hk; omega)
      have hO3 := hO2.below ((Below.refl w2.heap.size w2).alloc (Nat.le_refl _) (.cells #[Value.string x.1] 9))
      have hI3 : IterAt (w2.alloc (.cells #[Value.string x.1] 9)) w.heap.size mb clock (vis ++ [x]) := (Below.refl w2.heap.size w2).alloc (Nat.le_refl _) (.cells #[Value.string x.1] 9) |>.block w.heap.size (by omega) |>.trans hI2
      have hW2 : Below w.heap.size w w2 := hB.trans (hK2.below_of hB.size fun k hk => by have : k = w.heap.size := hk; omega)
      have hW3 : Below w.heap.size w (w2.alloc (.cells #[Value.string x.1] 9)) := hW2.alloc (by omega) _
      have hs3 : (w2.alloc (.cells #[Value.string x.1] 9)).heap.size = w2.heap.size + 1 := by simp
      have hvl : vis.length + 1 ≤ 1000000000 := by
        have h1 := visits_le hV2
        rw [List.length_append] at h1
        have := HK.out.2
        simp at h1
        omega
      have HVL := Lib.hid hvl
      have HS2 := Lib.hid hs2
      clear hvl hs2
      go_wp2_with (first
        | (at_builtin
           refine wpList_append_S rfl tStrings (.tmp 14) (.tmp 16) rfl (K := kString) rfl rfl hO3 hr2 ?_ ?_ ?_ ?_))
      · intro j hj hj2
        have h1 : j < wr.heap.size := (hO.lt j hj).2
        have h2 : j = w2.heap.size := hj2
        have := HS2.out
        omega
      · simp only [List.length_map]
        have := HVL.out
        omega
      · simp only [List.length_map]
        have := HVL.out
        omega
      intro v4 w4 hA
      obtain ⟨A7, n7, c7, rfl⟩ := hA.own.shape
      have hs4 := hA.grown.size
      have hs5 : w.heap.size < w2.heap.size := Nat.lt_of_lt_of_le hrlt hK2.size
      have hg : ∀ k, (Value.slice A n cp).ownBlock = some k → w.heap.size < k ∧ k < wr.heap.size := fun k hk => hO.lt k hk
      have hW4 : Below w.heap.size w w4 := hW3.grown hA.grown (by omega) (fun j hj => by have := (hg j hj).1; omega)
      have hI4 : IterAt w4 w.heap.size mb clock (vis ++ [x]) := (hA.grown.block w.heap.size (by omega) (fun e => by have := (hg _ e.symm).1; omega)).trans hI3
      have hO4 : OwnS kString 9 w4 (fun k => w.heap.size < k) (.slice A7 n7 c7) ((vis ++ [x]).map (·.1)) := by
        rw [List.map_append]
        refine hA.own.mono fun j hj => ?_
        rcases hj with hj | hj | hj
        · exact hj
        · have : j = w2.heap.size := hj
          have := HS2.out
          show w.heap.size < j; omega
        · have h1 := hj.1
          have := HS2.out
          show w.heap.size < j; omega
      have hn7 : n7 = ((vis ++ [x]).map (·.1)).length := by
        obtain ⟨A', c', e', _⟩ := hO4.slice
        injection e'
      clear hA hO3 hO2 hI3 hI2 hW3 hW2 hr2 hg
      go_wp2
      go_roundw
      case rel => exact ⟨vis ++ [x], A7, n7, c7, rfl, Lib.hid (by simpa using hn7), hV2, hI4, hO4, hW4⟩
      case measure =>
        have h1 := visits_le hV2
        have := hnl.out
        simp at hn7 h1
        simp
        omega
end Go.Proofs.YtfjndjbpgcggkaaDoor
