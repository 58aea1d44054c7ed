/- record.reader: sign, text. -/
import Derived.Test.YtfjndjbpgcggkaaDoorV11
set_option linter.unusedVariables false
set_option linter.unusedSimpArgs false
namespace Go.Proofs.YtfjndjbpgcggkaaDoor
open Go.RowKit

def rdSign (bs : List Int) (i : Nat) (e : Int) : Bool × Nat × Int :=
  if e ≠ 0 then (false, i, e) else match bs[i]? with | none => (false, i, 4) | some z => (decide (z = 1), i + 1, if 1 < z then 2 else 0)

set_option maxHeartbeats 8000000 in
set_option maxRecDepth 100000 in
theorem rdSign_any (w : World) (F : Foot) (rb : Nat) (A : Option Addr) (L c : Nat) (bs : List Int) (i : Nat) (e : Int) (h : RdAt w F rb A L c bs i e) (hB : Bytes bs) (hL : L ≤ 100000000000) :
    Calls Tryd.prog 183 #[.pointer (some ⟨rb, 0, none⟩)] w (RdPost w F rb A L c bs (.bool (rdSign bs i e).1) (rdSign bs i e).2.1 (rdSign bs i e).2.2) := by
  have c0 : w.cell? ⟨rb, 0, none⟩ = some (.slice A L c) := cell_of_row w rb 0 _ _ _ h.cells
  have c1 : w.cell? ⟨rb, 1, none⟩ = some (.int .i64 i) := cell_of_row w rb 1 _ _ _ h.cells
  have c2 : w.cell? ⟨rb, 2, none⟩ = some (.int .i64 e) := cell_of_row w rb 2 _ _ _ h.cells
  have hfz0 : w.frozen? ⟨rb, 1, none⟩ = false := frozen_of_row w rb 1 _ _ h.cells
  have hfz1 : w.frozen? ⟨rb, 2, none⟩ = false := frozen_of_row w rb 2 _ _ h.cells
  have H := Lib.hid h
  have hil := h.il
  have hrl : rb < w.heap.size := (Array.getElem?_eq_some_iff.1 h.cells).1
  have Hlen := Lib.hid h.rd.length
  unfold rdSign
  by_cases he : e = 0
  rotate_left
  · have eb : (e != 0) = true := by rw [bne_iff_ne]; exact he
    rw [if_pos he]
    clear h he
    go_enter Tryd.func183, Tryd.ntmps183
    go_wp2
    go_ret
    exact ⟨rfl, H.out, Keeps.refl _ _⟩
  subst he
  rw [if_neg (by simp)]
  by_cases hend : i < L
  rotate_left
  · have hnone : bs[i]? = none := List.getElem?_eq_none (by rw [Hlen.out]; omega)
    rw [hnone]
    have eb : ((i : Int) == (L : Int)) = true := by rw [beq_iff_eq]; omega
    clear h hnone
    go_enter Tryd.func183, Tryd.ntmps183
    go_wp2_with fail
    go_quiet (fail)
    go_wp2
    go_ret
    have h0 : (w.drewN nq).heap[rb]? = _ := H.out.cells
    have hc := heap_setCell_same (w.drewN nq) rb 2 _ _ (.int .i64 4) h0
    exact ⟨rfl, H.out.set hc (fun k hk hn => Below.heap_setCell _ ⟨rb, 2, none⟩ _ k hn) hil, ((Keeps.refl (fun k => k = rb) w).drewN nq).setCell (p := ⟨rb, 2, none⟩) (fun _ => rfl) _⟩
  · obtain ⟨z, hz⟩ : ∃ z, bs[i]? = some z := ⟨_, List.getElem?_eq_getElem (by rw [Hlen.out]; exact hend)⟩
    obtain ⟨ad, hA0, hFa, k0⟩ := at_int h.rd hz
    obtain ⟨hz1, hz2⟩ := hB z (List.mem_of_getElem? hz)
    have hne : ((i : Int) == (L : Int)) = false := by rw [beq_eq_false_iff_ne]; omega
    subst hA0
    rw [hz]
    obtain ⟨pz, hpz⟩ : ∃ p : Addr, ad.add i = p := ⟨_, rfl⟩
    have hpb : pz.block ≠ rb := by rw [← hpz, block_add]; exact hFa.2
    have hpl : pz.block < w.heap.size := World.block_lt_of_cell? w _ (hpz ▸ k0)
    rw [hpz] at k0
    clear h hz hFa
    show Calls _ _ _ _ (RdPost w F rb (some ad) L c bs (.bool (decide (z = 1))) (i + 1) (if 1 < z then 2 else 0))
    by_cases hbig : 1 < z
    · have ez : (z == 1) = false := by rw [beq_eq_false_iff_ne]; omega
      have ez2 : Hid (decide (z = 1) = false) := by show _ = _; rw [decide_eq_false (by omega)]
      rw [ez2.out, if_pos hbig]
      go_enter Tryd.func183, Tryd.ntmps183
      go_wp2_with fail
      go_quiet (fail)
      generalize nq = n1
      go_wp2_with fail
      go_quiet (fail)
      go_wp2_with fail
      have h0 : (w.drewN (n1 + nq)).heap[rb]? = _ := H.out.cells
      have hc := heap_setCell_same _ rb 1 _ _ (.int .i64 ((i : Int) + 1)) (heap_setCell_same (w.drewN (n1 + nq)) rb 2 _ _ (.int .i64 2) h0)
      have hkp : Keeps (fun k => k = rb) w (((w.drewN (n1 + nq)).setCell ⟨rb, 2, none⟩ (.int .i64 2)).setCell ⟨rb, 1, none⟩ (.int .i64 ((i : Int) + 1))) := (((Keeps.refl (fun k => k = rb) w).drewN (n1 + nq)).setCell (p := ⟨rb, 2, none⟩) (fun _ => rfl) _).setCell (p := ⟨rb, 1, none⟩) (fun _ => rfl) _
      have hot : ∀ k, k ≠ rb → (((w.drewN (n1 + nq)).setCell ⟨rb, 2, none⟩ (.int .i64 2)).setCell ⟨rb, 1, none⟩ (.int .i64 ((i : Int) + 1))).heap[k]? = w.heap[k]? := fun k hn => (Below.heap_setCell _ ⟨rb, 1, none⟩ _ k hn).trans (Below.heap_setCell _ ⟨rb, 2, none⟩ _ k hn)
      have hsz : (((w.drewN (n1 + nq)).setCell ⟨rb, 2, none⟩ (.int .i64 2)).setCell ⟨rb, 1, none⟩ (.int .i64 ((i : Int) + 1))).heap.size = w.heap.size := by simp
      generalize ((w.drewN (n1 + nq)).setCell ⟨rb, 2, none⟩ (.int .i64 2)).setCell ⟨rb, 1, none⟩ (.int .i64 ((i : Int) + 1)) = w9 at hc hkp hot hsz ⊢
      have hRd := Lib.hid (H.out.set (i' := i + 1) hc (fun k _ hn => hot k hn) (by omega))
      have y0 : w9.cell? ⟨rb, 0, none⟩ = some (.slice (some ad) L c) := cell_of_row w9 rb 0 _ _ _ hc
      have y1 : w9.cell? ⟨rb, 1, none⟩ = some (.int .i64 ((i : Int) + 1)) := cell_of_row w9 rb 1 _ _ _ hc
      have yk : w9.cell? pz = some (.int .u8 z) := (World.cell?_of_block (hot _ hpb)).trans k0
      have hrl9 : rb < w9.heap.size := by omega
      have Hk := Lib.hid hkp
      clear hc hot hkp h0 c0 c1 c2 hfz0 hfz1 k0
      go_quiet (fail)
      go_wp2
      go_ret
      have hfin : RdAt (w9.drewN nq) F rb (some ad) L c bs (i + 1) 2 := hRd.out.set (i' := i + 1) (e' := 2) hRd.out.cells (fun _ _ _ => rfl) (by omega)
      exact ⟨by first | rfl | simp, hfin, Hk.out.drewN nq⟩
    · by_cases h1 : z = 1
      · have ez : (z == 1) = true := by rw [beq_iff_eq]; exact h1
        have ez2 : Hid (decide (z = 1) = true) := by show _ = _; rw [decide_eq_true h1]
        rw [ez2.out, if_neg hbig]
        clear h1
        go_enter Tryd.func183, Tryd.ntmps183
        go_wp2_with fail
        go_quiet (fail)
        generalize nq = n1
        go_wp2_with fail
        go_quiet (fail)
        go_wp2_with fail
        have h0 : (w.drewN (n1 + nq)).heap[rb]? = _ := H.out.cells
        have hc := heap_setCell_same (w.drewN (n1 + nq)) rb 1 _ _ (.int .i64 ((i : Int) + 1)) h0
        have hkp : Keeps (fun k => k = rb) w ((w.drewN (n1 + nq)).setCell ⟨rb, 1, none⟩ (.int .i64 ((i : Int) + 1))) := ((Keeps.refl (fun k => k = rb) w).drewN (n1 + nq)).setCell (p := ⟨rb, 1, none⟩) (fun _ => rfl) _
        have hot : ∀ k, k ≠ rb → ((w.drewN (n1 + nq)).setCell ⟨rb, 1, none⟩ (.int .i64 ((i : Int) + 1))).heap[k]? = w.heap[k]? := fun k hn => Below.heap_setCell _ ⟨rb, 1, none⟩ _ k hn
        have hsz : ((w.drewN (n1 + nq)).setCell ⟨rb, 1, none⟩ (.int .i64 ((i : Int) + 1))).heap.size = w.heap.size := by simp
        generalize (w.drewN (n1 + nq)).setCell ⟨rb, 1, none⟩ (.int .i64 ((i : Int) + 1)) = w9 at hc hkp hot hsz ⊢
        have hRd := Lib.hid (H.out.set (i' := i + 1) hc (fun k _ hn => hot k hn) (by omega))
        have y0 : w9.cell? ⟨rb, 0, none⟩ = some (.slice (some ad) L c) := cell_of_row w9 rb 0 _ _ _ hc
        have y1 : w9.cell? ⟨rb, 1, none⟩ = some (.int .i64 ((i : Int) + 1)) := cell_of_row w9 rb 1 _ _ _ hc
        have yk : w9.cell? pz = some (.int .u8 z) := (World.cell?_of_block (hot _ hpb)).trans k0
        have hrl9 : rb < w9.heap.size := by omega
        have Hk := Lib.hid hkp
        clear hc hot hkp h0 c0 c1 c2 hfz0 hfz1 k0
        go_quiet (fail)
        go_wp2
        go_ret
        have hfin : RdAt (w9.drewN nq) F rb (some ad) L c bs (i + 1) 0 := hRd.out.set (i' := i + 1) (e' := 0) hRd.out.cells (fun _ _ _ => rfl) (by omega)
        exact ⟨by first | rfl | simp, hfin, Hk.out.drewN nq⟩
      · have ez : (z == 1) = false := by rw [beq_eq_false_iff_ne]; exact h1
        have ez2 : Hid (decide (z = 1) = false) := by show _ = _; rw [decide_eq_false h1]
        rw [ez2.out, if_neg hbig]
        clear h1
        go_enter Tryd.func183, Tryd.ntmps183
        go_wp2_with fail
        go_quiet (fail)
        generalize nq = n1
        go_wp2_with fail
        go_quiet (fail)
        go_wp2_with fail
        have h0 : (w.drewN (n1 + nq)).heap[rb]? = _ := H.out.cells
        have hc := heap_setCell_same (w.drewN (n1 + nq)) rb 1 _ _ (.int .i64 ((i : Int) + 1)) h0
        have hkp : Keeps (fun k => k = rb) w ((w.drewN (n1 + nq)).setCell ⟨rb, 1, none⟩ (.int .i64 ((i : Int) + 1))) := ((Keeps.refl (fun k => k = rb) w).drewN (n1 + nq)).setCell (p := ⟨rb, 1, none⟩) (fun _ => rfl) _
        have hot : ∀ k, k ≠ rb → ((w.drewN (n1 + nq)).setCell ⟨rb, 1, none⟩ (.int .i64 ((i : Int) + 1))).heap[k]? = w.heap[k]? := fun k hn => Below.heap_setCell _ ⟨rb, 1, none⟩ _ k hn
        have hsz : ((w.drewN (n1 + nq)).setCell ⟨rb, 1, none⟩ (.int .i64 ((i : Int) + 1))).heap.size = w.heap.size := by simp
        generalize (w.drewN (n1 + nq)).setCell ⟨rb, 1, none⟩ (.int .i64 ((i : Int) + 1)) = w9 at hc hkp hot hsz ⊢
        have hRd := Lib.hid (H.out.set (i' := i + 1) hc (fun k _ hn => hot k hn) (by omega))
        have y0 : w9.cell? ⟨rb, 0, none⟩ = some (.slice (some ad) L c) := cell_of_row w9 rb 0 _ _ _ hc
        have y1 : w9.cell? ⟨rb, 1, none⟩ = some (.int .i64 ((i : Int) + 1)) := cell_of_row w9 rb 1 _ _ _ hc
        have yk : w9.cell? pz = some (.int .u8 z) := (World.cell?_of_block (hot _ hpb)).trans k0
        have hrl9 : rb < w9.heap.size := by omega
        have Hk := Lib.hid hkp
        clear hc hot hkp h0 c0 c1 c2 hfz0 hfz1 k0
        go_quiet (fail)
        go_wp2
        go_ret
        have hfin : RdAt (w9.drewN nq) F rb (some ad) L c bs (i + 1) 0 := hRd.out.set (i' := i + 1) (e' := 0) hRd.out.cells (fun _ _ _ => rfl) (by omega)
        exact ⟨by first | rfl | simp, hfin, Hk.out.drewN nq⟩
end Go.Proofs.YtfjndjbpgcggkaaDoor
