/- The document's own disk: Rename. -/
import Derived.Test.YtfjndjbpgcggkaaDoorDR8
set_option linter.unusedVariables false
set_option linter.unusedSimpArgs false
namespace Go.Proofs.YtfjndjbpgcggkaaDoor
open Go.RowKit
attribute [local go_sem] Same.cell

def rrenE (p q : ByteArray) (l : List RFile) : Int := if validName p = false ∨ validName q = false then 6 else (rgot p l).2
def rrenL (p q : ByteArray) (l : List RFile) : List RFile := if rrenE p q l ≠ 0 ∨ p = q then l else rput ⟨q, (rgot p l).1.b, (rgot p l).1.loose⟩ (rremL p l)
theorem rremL_len (s : ByteArray) (l : List RFile) : (rremL s l).length ≤ l.length := by
  unfold rremL
  split
  · rw [List.length_append, List.length_take, List.length_drop]; omega
  · exact Nat.le_refl _

theorem RefAt.keep {W W' : World} {F : Foot} {rb : Nat} {room : Int} {l : List RFile} {A : Option Addr} {c : Nat} (h : RefAt W F rb room l A c) (hs : W.heap.size ≤ W'.heap.size) (hk : ∀ k, F k → k < W.heap.size → W'.heap[k]? = W.heap[k]?) : RefAt W' F rb room l A c :=
  ⟨(hk rb h.fs (Array.getElem?_eq_some_iff.1 h.cells).1).trans h.cells, h.fs, h.own.keep hs fun k hf hl => hk k hf.1 hl⟩
theorem RefAt.bound {W : World} {F : Foot} {rb : Nat} {room : Int} {l : List RFile} {A : Option Addr} {c : Nat} (h : RefAt W F rb room l A c) : RefAt W (fun k => F k ∧ k < W.heap.size) rb room l A c :=
  ⟨h.cells, ⟨h.fs, (Array.getElem?_eq_some_iff.1 h.cells).1⟩, h.own.bound.mono fun k hk => ⟨⟨hk.1.1, hk.2⟩, hk.1.2⟩⟩
theorem RPost.mono {w w' : World} {F G : Foot} {rb : Nat} {room : Int} {l : List RFile} {e : Int} {en : Ending} (h : RPost w F rb room l e en w') (hG : ∀ k, F k → G k) : RPost w G rb room l e en w' := by
  obtain ⟨h1, ⟨A, c, h2⟩, h3⟩ := h
  exact ⟨h1, ⟨A, c, h2.mono fun k hk => hk.imp (hG k) id⟩, h3⟩

set_option maxHeartbeats 8000000 in
set_option maxRecDepth 100000 in
theorem rrename_any0 (rb : Nat) (p q : ByteArray) (w : World) (F : Foot) (room : Int) (l : List RFile) (A : Option Addr) (c : Nat) (h : RefAt w F rb room l A c) (hin : ∀ k, F k → k < w.heap.size) (hn : l.length ≤ 1000000000) (hs : p.size ≤ 35184372088832) (hs2 : q.size ≤ 35184372088832) :
    Calls Tryd.prog 88 #[.pointer (some ⟨rb, 0, none⟩), .string p, .string q] w (RPost w F rb room (rrenL p q l) (rrenE p q l)) := by
  have HV := Lib.hid (fun w1 => RefValid_any p w1 hs)
  have HV2 := Lib.hid (fun w1 => RefValid_any q w1 hs2)
  have H := Lib.hid h
  have hrlt : rb < w.heap.size := (Array.getElem?_eq_some_iff.1 h.cells).1
  clear h
  by_cases hpv : validName p = false
  · have he : rrenE p q l = 6 := by unfold rrenE; rw [if_pos (.inl hpv)]
    have hl : rrenL p q l = l := by unfold rrenL; rw [if_pos (.inl (by rw [he]; decide))]
    rw [he, hl]
    rw [hpv] at HV
    clear he hl hpv
    go_enter Tryd.func88, Tryd.ntmps88
    go_wp2_with fail
    refine (HV.out _).mono ?_
    rintro e w1 ⟨rfl, rfl⟩
    go_wp2
    go_ret
    exact RPost.same H.out (Below.refl _ _)
  have hpt : validName p = true := by simpa using hpv
  rw [hpt] at HV
  by_cases hqv : validName q = false
  · have he : rrenE p q l = 6 := by unfold rrenE; rw [if_pos (.inr hqv)]
    have hl : rrenL p q l = l := by unfold rrenL; rw [if_pos (.inl (by rw [he]; decide))]
    rw [he, hl]
    rw [hqv] at HV2
    clear he hl hpv hqv hpt
    go_enter Tryd.func88, Tryd.ntmps88
    go_wp2_with fail
    refine (HV.out _).mono ?_
    rintro e w1 ⟨rfl, rfl⟩
    go_wp2_with fail
    refine (HV2.out _).mono ?_
    rintro e w1 ⟨rfl, rfl⟩
    go_wp2
    go_ret
    exact RPost.same H.out (Below.refl _ _)
  have hqt : validName q = true := by simpa using hqv
  rw [hqt] at HV2
  have HG := Lib.hid (rget_any rb p w F room l A c H.out hn hs)
  have HR := Lib.hid (fun W (hb : Below w.heap.size w W) => rremove_any rb p W F room l A c (H.out.below hb) hn hs)
  have hrl := rremL_len p l
  have he : rrenE p q l = (rgot p l).2 := by unfold rrenE; rw [if_neg (by rw [hpt, hqt]; decide)]
  unfold rrenL
  rw [he]
  clear he hpv hqv hpt hqt
  generalize rgot p l = g at HG HR ⊢
  generalize rremL p l = l' at HR hrl ⊢
  obtain ⟨f, e0⟩ := g
  dsimp only at HG HR ⊢
  by_cases e00 : e0 = 0
  · subst e00
    by_cases hpq : p = q
    · subst hpq
      rw [if_pos (.inr rfl)]
      have eb : (p.toList == p.toList) = true := by simp
      go_enter Tryd.func88, Tryd.ntmps88
      go_wp2_with fail
      refine (HV.out _).mono ?_
      rintro e w1 ⟨rfl, rfl⟩
      go_wp2_with fail
      refine (HV.out _).mono ?_
      rintro e w1 ⟨rfl, rfl⟩
      go_wp2_with fail
      refine HG.out.mono ?_
      rintro e w1 ⟨A1, cp1, rfl, l1, m1, r1, hb1⟩
      have HX := Lib.hid (hb1.alloc hb1.size (.cells #[.string f.name, .slice A1 f.b.length cp1, .int .i64 f.loose] 191))
      clear hb1 r1 HG HR
      go_wp2
      go_ret
      exact RPost.same H.out HX.out
    · rw [if_neg (by rintro (h | h); exact h rfl; exact hpq h)]
      have eb : (p.toList == q.toList) = false := by
        rw [beq_eq_false_iff_ne]
        exact fun h => hpq (bytes_ext2 h)
      clear hpq
      go_enter Tryd.func88, Tryd.ntmps88
      go_wp2_with fail
      refine (HV.out _).mono ?_
      rintro e w1 ⟨rfl, rfl⟩
      go_wp2_with fail
      refine (HV2.out _).mono ?_
      rintro e w1 ⟨rfl, rfl⟩
      go_wp2_with fail
      refine HG.out.mono ?_
      rintro e w1 ⟨A1, cp1, rfl, l1, m1, r1, hb1⟩
      have hb2 : Below w.heap.size w (w1.alloc (.cells #[.string f.name, .slice A1 f.b.length cp1, .int .i64 f.loose] 191)) := hb1.alloc hb1.size _
      have hq2 := heap_alloc_new w1 (.cells #[.string f.name, .slice A1 f.b.length cp1, .int .i64 f.loose] 191)
      have r2 := r1.alloc (.cells #[.string f.name, .slice A1 f.b.length cp1, .int .i64 f.loose] 191)
      have hs1 := hb1.size
      have hqlt : w1.heap.size < (w1.alloc (.cells #[.string f.name, .slice A1 f.b.length cp1, .int .i64 f.loose] 191)).heap.size := by simp
      clear hb1 r1 HG
      have HX0 := Lib.hid (And.intro hb2 (And.intro hq2 r2))
      clear hb2 hq2 r2
      go_wp2_with fail
      have HX := HX0
      clear HX0
      generalize w1.alloc (.cells #[.string f.name, .slice A1 f.b.length cp1, .int .i64 f.loose] 191) = w2 at HX hqlt ⊢
      generalize w1.heap.size = qb at HX hs1 hqlt ⊢
      refine (HR.out w2 HX.out.1).mono ?_
      rintro e w3 ⟨rfl, ⟨A3, c3, h3⟩, hk3⟩
      obtain ⟨hb2, hq2, r2⟩ := HX.out
      have hq3 : w3.heap[qb]? = _ := (hk3.block qb hqlt (by omega)).trans hq2
      have z0 : w3.cell? ⟨qb, 0, none⟩ = some (.string f.name) := cell_of_row w3 _ 0 _ _ _ hq3
      have z1 : w3.cell? ⟨qb, 1, none⟩ = some (.slice A1 f.b.length cp1) := cell_of_row w3 _ 1 _ _ _ hq3
      have z2 : w3.cell? ⟨qb, 2, none⟩ = some (.int .i64 f.loose) := cell_of_row w3 _ 2 _ _ _ hq3
      have g0 : w3.frozen? ⟨qb, 0, none⟩ = false := frozen_of_row w3 _ 0 _ _ hq3
      have hs23 := hk3.size
      have hk03 : Keeps (fun k => k = rb) w w3 := (Keeps.of_below hb2 _).trans hk3
      have r3 : RS (kInt .u8) w3 (fun k => F k ∧ k ≠ rb ∧ k < w.heap.size) A1 f.b.length f.b := r2.keep fun k hk hl => hk3.block k hl hk.2.1
      have H3 := Lib.hid (And.intro h3 (And.intro hk03 r3))
      clear HX hb2 hq2 r2 h3 hk03 hk3 r3 hq3 HR
      go_wp2_with fail
      obtain ⟨h3, hk03, r3⟩ := H3.out
      have hk04 : Keeps (fun k => k = rb) w (w3.setCell ⟨qb, 0, none⟩ (.string q)) := hk03.setCell (p := ⟨qb, 0, none⟩) (fun h => by have : qb < w.heap.size := h; omega) _
      have h4 : RefAt (w3.setCell ⟨qb, 0, none⟩ (.string q)) (Grow F w2 w3) rb room l' A3 c3 := h3.keep (by simp) fun k hk hl => Below.heap_setCell _ _ _ _ (fun e => by
        have e : k = qb := e
        rcases hk with hk | hk
        · have := hin k hk; omega
        · omega)
      have r4 : RS (kInt .u8) (w3.setCell ⟨qb, 0, none⟩ (.string q)) (fun k => F k ∧ k ≠ rb ∧ k < w.heap.size) A1 f.b.length f.b := r3.far (p := ⟨qb, 0, none⟩) (fun hk => by have h3 : qb < w.heap.size := hk.2.2; omega) _
      have hs4 : (w3.setCell ⟨qb, 0, none⟩ (.string q)).heap.size = w3.heap.size := by simp
      generalize w3.setCell ⟨qb, 0, none⟩ (.string q) = w4 at hk04 h4 r4 hs4 ⊢
      refine (rput_any rb ⟨q, f.b, f.loose⟩ A1 cp1 w4 (Grow F w2 w3) (fun k => F k ∧ k ≠ rb ∧ k < w.heap.size) room l' A3 c3 h4 (by omega) l1 m1 r4 (fun h => h.2.1 rfl)).mono ?_
      rintro e w5 ⟨rfl, ⟨A5, c5, h5⟩, hk5⟩
      have H5 := Lib.hid (And.intro h5 (And.intro hk04 hk5))
      clear h3 hk03 r3 hk04 h4 r4 h5 hk5 H3 z0 z1 z2 g0
      go_wp2
      go_ret
      obtain ⟨h5, hk04, hk5⟩ := H5.out
      have hs5 := hk5.size
      have hs04 := hk04.size
      have hs02 : w.heap.size ≤ w2.heap.size := by omega
      refine ⟨rfl, ⟨A5, c5, h5.mono fun j hj => ?_⟩, hk04.trans hk5⟩
      rcases hj with (hj | hj) | hj | hj
      · exact .inl hj
      · exact .inr ⟨by omega, by omega⟩
      · exact .inl hj.1.1
      · exact .inr ⟨by omega, hj.2⟩
  · rw [if_pos (.inl e00)]
    have eb : (e0 != 0) = true := by rw [bne_iff_ne]; exact e00
    clear e00
    go_enter Tryd.func88, Tryd.ntmps88
    go_wp2_with fail
    refine (HV.out _).mono ?_
    rintro e w1 ⟨rfl, rfl⟩
    go_wp2_with fail
    refine (HV2.out _).mono ?_
    rintro e w1 ⟨rfl, rfl⟩
    go_wp2_with fail
    refine HG.out.mono ?_
    rintro e w1 ⟨A1, cp1, rfl, l1, m1, r1, hb1⟩
    have HX := Lib.hid (hb1.alloc hb1.size (.cells #[.string f.name, .slice A1 f.b.length cp1, .int .i64 f.loose] 191))
    clear hb1 r1 HG HR
    go_wp2
    go_ret
    exact RPost.same H.out HX.out
theorem rrename_any (rb : Nat) (p q : ByteArray) (w : World) (F : Foot) (room : Int) (l : List RFile) (A : Option Addr) (c : Nat) (h : RefAt w F rb room l A c) (hn : l.length ≤ 1000000000) (hs : p.size ≤ 35184372088832) (hs2 : q.size ≤ 35184372088832) :
    Calls Tryd.prog 88 #[.pointer (some ⟨rb, 0, none⟩), .string p, .string q] w (RPost w F rb room (rrenL p q l) (rrenE p q l)) :=
  (rrename_any0 rb p q w _ room l A c h.bound (fun k hk => hk.2) hn hs hs2).mono fun _ _ h => h.mono fun k hk => hk.1
end Go.Proofs.YtfjndjbpgcggkaaDoor
