/- record.reader: number. -/
import Derived.Test.YtfjndjbpgcggkaaDoorV10
set_option linter.unusedVariables false
set_option linter.unusedSimpArgs false
namespace Go.Proofs.YtfjndjbpgcggkaaDoor
open Go.RowKit

/-- A reader in memory: its bytes, where it stands, its error. -/
structure RdAt (W : World) (F : Foot) (rb : Nat) (A : Option Addr) (L c : Nat) (bs : List Int) (i : Nat) (e : Int) : Prop where
  cells : W.heap[rb]? = some (.cells #[.slice A L c, .int .i64 i, .int .i64 e] 244 (0, 0))
  rd : RS (kInt .u8) W (fun k => F k ∧ k ≠ rb) A L bs
  lc : L ≤ c
  il : i ≤ L
def rdNum (bs : List Int) (i : Nat) (e : Int) (most : Nat) : Nat × Nat × Int :=
  if e ≠ 0 then (0, i, e) else ((vget (bs.drop i)).1, i + (vget (bs.drop i)).2.1, if (vget (bs.drop i)).2.2 = 0 ∧ most < (vget (bs.drop i)).1 then 2 else (vget (bs.drop i)).2.2)
def RdPost (w : World) (F : Foot) (rb : Nat) (A : Option Addr) (L c : Nat) (bs : List Int) (v : Value) (i : Nat) (e : Int) (en : Ending) (w' : World) : Prop :=
  en = .returned v ∧ RdAt w' F rb A L c bs i e ∧ Keeps (fun k => k = rb) w w'
theorem vget_n (bs : List Int) : (vget bs).2.1 ≤ bs.length := vgetGo_n bs 0 0
theorem RdAt.set {W W' : World} {F : Foot} {rb : Nat} {A : Option Addr} {L c : Nat} {bs : List Int} {i : Nat} {e : Int} (h : RdAt W F rb A L c bs i e) {i' : Nat} {e' : Int} (hc : W'.heap[rb]? = some (.cells #[.slice A L c, .int .i64 i', .int .i64 e'] 244 (0, 0))) (hk : ∀ k, k < W.heap.size → k ≠ rb → W'.heap[k]? = W.heap[k]?) (hi : i' ≤ L) : RdAt W' F rb A L c bs i' e' :=
  ⟨hc, h.rd.keep fun k hf hl => hk k hl hf.2, h.lc, hi⟩

set_option maxHeartbeats 8000000 in
set_option maxRecDepth 100000 in
theorem rdNum_any (w : World) (F : Foot) (rb : Nat) (A : Option Addr) (L c : Nat) (bs : List Int) (i : Nat) (e : Int) (most : Nat) (h : RdAt w F rb A L c bs i e) (hB : Bytes bs) (hL : L ≤ 100000000000) :
    Calls Tryd.prog 182 #[.pointer (some ⟨rb, 0, none⟩), .int .u64 most] w (RdPost w F rb A L c bs (.int .u64 (rdNum bs i e most).1) (rdNum bs i e most).2.1 (rdNum bs i e most).2.2) := by
  have c0 : w.cell? ⟨rb, 0, none⟩ = some (.slice A L c) := cell_of_row w rb 0 _ _ _ h.cells
  have c1 : w.cell? ⟨rb, 1, none⟩ = some (.int .i64 i) := cell_of_row w rb 1 _ _ _ h.cells
  have c2 : w.cell? ⟨rb, 2, none⟩ = some (.int .i64 e) := cell_of_row w rb 2 _ _ _ h.cells
  have H := Lib.hid h
  have hil := h.il
  have hrl : rb < w.heap.size := (Array.getElem?_eq_some_iff.1 h.cells).1
  unfold rdNum
  by_cases he : e = 0
  rotate_left
  · have eb : (e != 0) = true := by rw [bne_iff_ne]; exact he
    rw [if_pos he]
    clear h he
    go_enter Tryd.func182, Tryd.ntmps182
    go_wp2
    go_ret
    exact ⟨rfl, H.out, Keeps.refl _ _⟩
  subst he
  rw [if_neg (by simp)]
  obtain ⟨A', hsl, htl⟩ := cut_lo tBytes .i64 A L c i hil
  have HV := Lib.hid (fun m => vGet_any A' (L - i) (c - i) (bs.drop i) (w.drewN m) _ ((htl (kInt .u8) w _ bs rfl h.lc h.rd).drewN m) (by omega) (hB.sub fun y hy => List.mem_of_mem_drop hy))
  have hn := vget_n (bs.drop i)
  rw [List.length_drop, h.rd.length] at hn
  obtain ⟨x, hx⟩ : ∃ x, Hid ((vget (bs.drop i)).1 = x) := ⟨_, rfl⟩
  obtain ⟨n, hnn⟩ : ∃ n, Hid ((vget (bs.drop i)).2.1 = n) := ⟨_, rfl⟩
  obtain ⟨e1, he1⟩ : ∃ e, Hid ((vget (bs.drop i)).2.2 = e) := ⟨_, rfl⟩
  rw [hnn.out] at hn
  rw [hx.out, hnn.out, he1.out] at HV ⊢
  have hfz0 : w.frozen? ⟨rb, 1, none⟩ = false := frozen_of_row w rb 1 _ _ h.cells
  have hfz1 : w.frozen? ⟨rb, 2, none⟩ = false := frozen_of_row w rb 2 _ _ h.cells
  clear hx hnn he1 htl h
  obtain ⟨e2, he2⟩ : ∃ e2, Hid ((if e1 = 0 ∧ most < x then (2 : Int) else e1) = e2) := ⟨_, rfl⟩
  rw [he2.out]
  by_cases hover : e1 = 0 ∧ most < x
  · obtain ⟨h1, h2⟩ := hover
    have eb : (e1 == 0) = true := by rw [beq_iff_eq]; exact h1
    have He2 : Hid (e2 = 2) := by show e2 = 2; rw [← he2.out, if_pos ⟨h1, h2⟩]
    clear h1
    go_enter Tryd.func182, Tryd.ntmps182
    go_wp2_with fail
    go_quiet ((go_at_call 162; exact Calls.quiet_of_same (HV.out _)))
    go_wp2
    go_ret
    rw [He2.out]
    have h0 : (w.drewN nq).heap[rb]? = _ := H.out.cells
    have hc := heap_setCell_same _ rb 2 _ _ (.int .i64 2) (heap_setCell_same _ rb 2 _ _ (.int .i64 e1) (heap_setCell_same (w.drewN nq) rb 1 _ _ (.int .i64 ((i : Int) + n)) h0))
    refine ⟨rfl, H.out.set hc (fun k hk hn => ?_) (by omega), (((Keeps.refl (fun k => k = rb) w).drewN nq).setCell (p := ⟨rb, 1, none⟩) (fun _ => rfl) _ |>.setCell (p := ⟨rb, 2, none⟩) (fun _ => rfl) _).setCell (p := ⟨rb, 2, none⟩) (fun _ => rfl) _⟩
    exact ((Below.heap_setCell _ ⟨rb, 2, none⟩ _ k hn).trans (Below.heap_setCell _ ⟨rb, 2, none⟩ _ k hn)).trans (Below.heap_setCell _ ⟨rb, 1, none⟩ _ k hn)
  · have He2 : Hid (e2 = e1) := by show e2 = e1; rw [← he2.out, if_neg hover]
    have fin : ∀ nq : Nat, RdAt (((w.drewN nq).setCell ⟨rb, 1, none⟩ (.int .i64 ((i : Int) + n))).setCell ⟨rb, 2, none⟩ (.int .i64 e1)) F rb A L c bs (i + n) e1 ∧ Keeps (fun k => k = rb) w (((w.drewN nq).setCell ⟨rb, 1, none⟩ (.int .i64 ((i : Int) + n))).setCell ⟨rb, 2, none⟩ (.int .i64 e1)) := fun nq => by
      have h0 : (w.drewN nq).heap[rb]? = _ := H.out.cells
      have hc := heap_setCell_same _ rb 2 _ _ (.int .i64 e1) (heap_setCell_same (w.drewN nq) rb 1 _ _ (.int .i64 ((i : Int) + n)) h0)
      refine ⟨H.out.set hc (fun k hk hn => ?_) (by omega), ((Keeps.refl (fun k => k = rb) w).drewN nq).setCell (p := ⟨rb, 1, none⟩) (fun _ => rfl) _ |>.setCell (p := ⟨rb, 2, none⟩) (fun _ => rfl) _⟩
      exact (Below.heap_setCell _ ⟨rb, 2, none⟩ _ k hn).trans (Below.heap_setCell _ ⟨rb, 1, none⟩ _ k hn)
    have Fin := Lib.hid fin
    clear fin
    by_cases h1 : e1 = 0
    · have h2 : ¬ most < x := fun h => hover ⟨h1, h⟩
      have eb : (e1 == 0) = true := by rw [beq_iff_eq]; exact h1
      clear hover h1
      go_enter Tryd.func182, Tryd.ntmps182
      go_wp2_with fail
      go_quiet ((go_at_call 162; exact Calls.quiet_of_same (HV.out _)))
      go_wp2
      go_ret
      rw [He2.out]
      exact ⟨rfl, (Fin.out nq).1, (Fin.out nq).2⟩
    · have eb : (e1 == 0) = false := by rw [beq_eq_false_iff_ne]; exact h1
      clear hover h1
      go_enter Tryd.func182, Tryd.ntmps182
      go_wp2_with fail
      go_quiet ((go_at_call 162; exact Calls.quiet_of_same (HV.out _)))
      go_wp2
      go_ret
      rw [He2.out]
      exact ⟨rfl, (Fin.out nq).1, (Fin.out nq).2⟩
end Go.Proofs.YtfjndjbpgcggkaaDoor
