/- record.reader: text. -/
import Derived.Test.YtfjndjbpgcggkaaDoorV12
set_option linter.unusedVariables false
set_option linter.unusedSimpArgs false
namespace Go.Proofs.YtfjndjbpgcggkaaDoor
open Go.RowKit

def rdText (bs : List Int) (i : Nat) (e : Int) (most : Nat) : ByteArray × Nat × Int :=
  if (rdNum bs i e most).2.2 ≠ 0 then (⟨#[]⟩, (rdNum bs i e most).2.1, (rdNum bs i e most).2.2)
  else if bs.length < (rdNum bs i e most).2.1 + (rdNum bs i e most).1 then (⟨#[]⟩, (rdNum bs i e most).2.1, 4)
  else (strOfNums ((bs.drop (rdNum bs i e most).2.1).take (rdNum bs i e most).1), (rdNum bs i e most).2.1 + (rdNum bs i e most).1, 0)
theorem rdNum_most (bs : List Int) (i : Nat) (e : Int) (most : Nat) (h : (rdNum bs i e most).2.2 = 0) : (rdNum bs i e most).1 ≤ most := by
  unfold rdNum at h ⊢
  by_cases he : e ≠ 0
  · rw [if_pos he]; exact Nat.zero_le _
  · rw [if_neg he] at h ⊢
    dsimp only at h ⊢
    by_cases hc : (vget (bs.drop i)).2.2 = 0 ∧ most < (vget (bs.drop i)).1
    · rw [if_pos hc] at h; cases h
    · rw [if_neg hc] at h
      have : ¬ most < (vget (bs.drop i)).1 := fun hx => hc ⟨h, hx⟩
      omega

set_option maxHeartbeats 8000000 in
set_option maxRecDepth 100000 in
theorem rdText_any (w : World) (F : Foot) (rb : Nat) (A : Option Addr) (L c : Nat) (bs : List Int) (i : Nat) (e : Int) (most : Nat) (h : RdAt w F rb A L c bs i e) (hB : Bytes bs) (hL : L ≤ 100000000000) (hm : most ≤ 1000000) :
    Calls Tryd.prog 184 #[.pointer (some ⟨rb, 0, none⟩), .int .u64 most] w (RdPost w F rb A L c bs (.string (rdText bs i e most).1) (rdText bs i e most).2.1 (rdText bs i e most).2.2) := by
  have HN := Lib.hid (rdNum_any w F rb A L c bs i e most h hB hL)
  have hrl : rb < w.heap.size := (Array.getElem?_eq_some_iff.1 h.cells).1
  have hmo := rdNum_most bs i e most
  have Hlen := Lib.hid h.rd.length
  unfold rdText
  generalize rdNum bs i e most = r at HN hmo ⊢
  obtain ⟨x, j, e1⟩ := r
  dsimp only at HN hmo ⊢
  rw [Hlen.out]
  clear h
  by_cases he : e1 = 0
  rotate_left
  · have eb : (e1 != 0) = true := by rw [bne_iff_ne]; exact he
    have eb2 : (e1 == 0) = false := by rw [beq_eq_false_iff_ne]; exact he
    rw [if_pos he]
    clear he hmo
    go_enter Tryd.func184, Tryd.ntmps184
    go_wp2_with fail
    refine HN.out.mono ?_
    rintro en w1 ⟨rfl, h1, hk1⟩
    have c2 : w1.cell? ⟨rb, 2, none⟩ = some (.int .i64 e1) := cell_of_row w1 rb 2 _ _ _ h1.cells
    have hrl1 : rb < w1.heap.size := (Array.getElem?_eq_some_iff.1 h1.cells).1
    have H1 := Lib.hid (And.intro h1 hk1)
    clear h1 hk1
    go_wp2_with fail
    go_quiet (fail)
    go_wp2
    go_ret
    exact ⟨rfl, H1.out.1.set (i' := j) (e' := e1) H1.out.1.cells (fun _ _ _ => rfl) H1.out.1.il, H1.out.2.drewN nq⟩
  subst he
  have hxm := hmo rfl
  rw [if_neg (by simp)]
  by_cases hsh : L < j + x
  · rw [if_pos hsh]
    clear hmo
    go_enter Tryd.func184, Tryd.ntmps184
    go_wp2_with fail
    refine HN.out.mono ?_
    rintro en w1 ⟨rfl, h1, hk1⟩
    have c0 : w1.cell? ⟨rb, 0, none⟩ = some (.slice A L c) := cell_of_row w1 rb 0 _ _ _ h1.cells
    have c1 : w1.cell? ⟨rb, 1, none⟩ = some (.int .i64 j) := cell_of_row w1 rb 1 _ _ _ h1.cells
    have c2 : w1.cell? ⟨rb, 2, none⟩ = some (.int .i64 0) := cell_of_row w1 rb 2 _ _ _ h1.cells
    have hfz : w1.frozen? ⟨rb, 2, none⟩ = false := frozen_of_row w1 rb 2 _ _ h1.cells
    have hrl1 : rb < w1.heap.size := (Array.getElem?_eq_some_iff.1 h1.cells).1
    have hjl := h1.il
    have H1 := Lib.hid (And.intro h1 hk1)
    clear h1 hk1
    go_wp2_with fail
    go_quiet (fail)
    go_wp2
    go_ret
    have h0 : (w1.drewN nq).heap[rb]? = _ := H1.out.1.cells
    have hc := heap_setCell_same (w1.drewN nq) rb 2 _ _ (.int .i64 4) h0
    exact ⟨rfl, H1.out.1.set (i' := j) (e' := 4) hc (fun k hk hn => Below.heap_setCell _ ⟨rb, 2, none⟩ _ k hn) H1.out.1.il, (H1.out.2.drewN nq).setCell (p := ⟨rb, 2, none⟩) (fun _ => rfl) _⟩
  · rw [if_neg hsh]
    clear hmo
    go_enter Tryd.func184, Tryd.ntmps184
    go_wp2_with fail
    refine HN.out.mono ?_
    rintro en w1 ⟨rfl, h1, hk1⟩
    have c0 : w1.cell? ⟨rb, 0, none⟩ = some (.slice A L c) := cell_of_row w1 rb 0 _ _ _ h1.cells
    have c1 : w1.cell? ⟨rb, 1, none⟩ = some (.int .i64 j) := cell_of_row w1 rb 1 _ _ _ h1.cells
    have c2 : w1.cell? ⟨rb, 2, none⟩ = some (.int .i64 0) := cell_of_row w1 rb 2 _ _ _ h1.cells
    have hfz : w1.frozen? ⟨rb, 1, none⟩ = false := frozen_of_row w1 rb 1 _ _ h1.cells
    have hrl1 : rb < w1.heap.size := (Array.getElem?_eq_some_iff.1 h1.cells).1
    have hjl := h1.il
    have H1 := Lib.hid (And.intro h1 hk1)
    clear h1 hk1
    go_wp2_with fail
    go_quiet (fail)
    generalize nq = n1
    go_wp2_with fail
    have h0 : (w1.drewN n1).heap[rb]? = _ := H1.out.1.cells
    have hc := heap_setCell_same (w1.drewN n1) rb 1 _ _ (.int .i64 ((j : Int) + x)) h0
    have hot : ∀ k, k ≠ rb → ((w1.drewN n1).setCell ⟨rb, 1, none⟩ (.int .i64 ((j : Int) + x))).heap[k]? = w1.heap[k]? := fun k hn => Below.heap_setCell _ ⟨rb, 1, none⟩ _ k hn
    have hkp : Keeps (fun k => k = rb) w ((w1.drewN n1).setCell ⟨rb, 1, none⟩ (.int .i64 ((j : Int) + x))) := (H1.out.2.drewN n1).setCell (p := ⟨rb, 1, none⟩) (fun _ => rfl) _
    have hsz : ((w1.drewN n1).setCell ⟨rb, 1, none⟩ (.int .i64 ((j : Int) + x))).heap.size = w1.heap.size := by simp
    generalize (w1.drewN n1).setCell ⟨rb, 1, none⟩ (.int .i64 ((j : Int) + x)) = w9 at hc hot hkp hsz ⊢
    have hRd := Lib.hid (H1.out.1.set (i' := j + x) (e' := 0) hc (fun k _ hn => hot k hn) (by omega))
    have y0 : w9.cell? ⟨rb, 0, none⟩ = some (.slice A L c) := cell_of_row w9 rb 0 _ _ _ hc
    have y1 : w9.cell? ⟨rb, 1, none⟩ = some (.int .i64 ((j : Int) + x)) := cell_of_row w9 rb 1 _ _ _ hc
    have hrl9 : rb < w9.heap.size := by omega
    obtain ⟨A2, hs2, ht2⟩ := cut_lh tBytes .i64 .i64 A L c j (j + x) hjl (by omega) (by omega) hRd.out.lc
    have hr2 := ht2 (kInt .u8) w9 _ bs rfl hRd.out.rd
    rw [show j + x - j = x by omega] at hr2 hs2
    have hs2' : ∀ W, (Instr.slice 26 (.slice A L c) (some (.int .i64 (j : Int))) (some (.int .i64 ((j : Int) + x))) none).run Tryd.prog W = .ok (.slice A2 x (c - j)) W := hs2
    have hcv : ∀ m, (convert 26 9 (.slice A2 x (c - j))).run Tryd.prog (w9.drewN m) = .ok (.string (strOfNums ((bs.drop j).take x))) (w9.drewN m) := fun m => (hr2.drewN m).str (P := Tryd.prog) 26 9 5 (c - j) Tryd.underlying26 Tryd.underlying5 Tryd.underlying9
    obtain ⟨s, hs⟩ : ∃ s, Hid (strOfNums ((bs.drop j).take x) = s) := ⟨_, rfl⟩
    rw [hs.out] at hcv
    have Hk := Lib.hid hkp
    clear hc hot hkp h0 c0 c1 c2 hfz hs2 ht2 hr2
    go_quiet (fail)
    go_wp2
    go_ret
    exact ⟨by rw [← hs.out]; rfl, hRd.out.set (i' := j + x) (e' := 0) hRd.out.cells (fun _ _ _ => rfl) (by omega), Hk.out.drewN nq⟩
end Go.Proofs.YtfjndjbpgcggkaaDoor
