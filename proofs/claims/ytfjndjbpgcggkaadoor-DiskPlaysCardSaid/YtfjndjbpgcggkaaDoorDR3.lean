/- The document's own disk: get. -/
import Derived.Test.YtfjndjbpgcggkaaDoorDR2
set_option linter.unusedVariables false
set_option linter.unusedSimpArgs false
namespace Go.Proofs.YtfjndjbpgcggkaaDoor
open Go.RowKit

set_option maxHeartbeats 4000000 in
set_option maxRecDepth 100000 in
theorem rget_any (rb : Nat) (s : ByteArray) (w : World) (F : Foot) (room : Int) (l : List RFile) (A : Option Addr) (c : Nat) (h : RefAt w F rb room l A c) (hn : l.length ≤ 1000000000) (hs : s.size ≤ 35184372088832) :
    Calls Tryd.prog 134 #[.pointer (some ⟨rb, 0, none⟩), .string s] w (RGetPost w F rb (rgot s l).1 (rgot s l).2) := by
  have HV := Lib.hid (fun w1 => RefValid_any s w1 hs)
  have hrlt : rb < w.heap.size := (Array.getElem?_eq_some_iff.1 h.cells).1
  have hal : Below w.heap.size w (w.alloc (.cells #[.string ⟨#[]⟩, .slice none 0 0, .int .i64 0] 191)) := (Below.refl _ _).alloc (Nat.le_refl _) _
  have hq := heap_alloc_new w (.cells #[.string ⟨#[]⟩, .slice none 0 0, .int .i64 0] 191)
  have HF := Lib.hid (fun W (hb : Below w.heap.size w W) => rfind_any rb s W F room l A c ⟨(hb.block rb hrlt).trans h.cells, h.fs, h.own.below hb⟩ hn)
  cases hv : validName s with
  | false =>
    have hg : rgot s l = (⟨⟨#[]⟩, [], 0⟩, 6) := by unfold rgot; rw [if_pos hv]
    rw [hg]
    rw [hv] at HV
    clear hv hg h HF hq
    go_enter Tryd.func134, Tryd.ntmps134
    go_wp2_with fail
    refine (HV.out _).mono ?_
    rintro e w1 ⟨rfl, rfl⟩
    go_wp2
    refine bodyPost_ret (v := .tuple #[.agg #[.string ⟨#[]⟩, .slice none 0 0, .int .i64 0], .int .i64 6]) (by simp [results, Tryd.results134, go_sem]) rfl ?_
    exact ⟨none, 0, rfl, by simp, by omega, RS.nil, hal⟩
  | true =>
    rw [hv] at HV
    cases hat : isAt s l with
    | false =>
      have hg : rgot s l = (⟨⟨#[]⟩, [], 0⟩, 8) := by unfold rgot; rw [if_neg (by rw [hv]; decide), if_neg (by rw [hat]; decide)]
      rw [hg]
      rw [hat] at HF
      clear hv hg h hat
      go_enter Tryd.func134, Tryd.ntmps134
      go_wp2_with fail
      refine (HV.out _).mono ?_
      rintro e w1 ⟨rfl, rfl⟩
      go_wp2_with fail
      refine (HF.out _ hal).mono ?_
      rintro e w2 ⟨rfl, nd, rfl⟩
      have hq2 : ((w.alloc (.cells #[.string ⟨#[]⟩, .slice none 0 0, .int .i64 0] 191)).drewN nd).heap[w.heap.size]? = some (.cells #[.string ⟨#[]⟩, .slice none 0 0, .int .i64 0] 191 (0, 0)) := hq
      have hal2 : Below w.heap.size w ((w.alloc (.cells #[.string ⟨#[]⟩, .slice none 0 0, .int .i64 0] 191)).drewN nd) := ⟨hal.os, hal.tape, hal.output, hal.size, hal.block⟩
      generalize (w.alloc (.cells #[.string ⟨#[]⟩, .slice none 0 0, .int .i64 0] 191)).drewN nd = w2 at hq2 hal2 ⊢
      have z0 : w2.cell? ⟨w.heap.size, 0, none⟩ = some (.string ⟨#[]⟩) := cell_of_row w2 _ 0 _ _ _ hq2
      have z1 : w2.cell? ⟨w.heap.size, 1, none⟩ = some (.slice none 0 0) := cell_of_row w2 _ 1 _ _ _ hq2
      have z2 : w2.cell? ⟨w.heap.size, 2, none⟩ = some (.int .i64 0) := cell_of_row w2 _ 2 _ _ _ hq2
      have f0 : w2.frozen? ⟨w.heap.size, 0, none⟩ = false := frozen_of_row w2 _ 0 _ _ hq2
      have f1 : w2.frozen? ⟨w.heap.size, 1, none⟩ = false := frozen_of_row w2 _ 1 _ _ hq2
      have f2 : w2.frozen? ⟨w.heap.size, 2, none⟩ = false := frozen_of_row w2 _ 2 _ _ hq2
      have HB := Lib.hid hal2
      clear hq hq2 hal hal2
      go_wp2
      refine bodyPost_ret (v := .tuple #[.agg #[.string ⟨#[]⟩, .slice none 0 0, .int .i64 0], .int .i64 8]) (by simp [results, Tryd.results134, go_sem, z0, z1, z2]) rfl ?_
      exact ⟨none, 0, rfl, by simp, by omega, RS.nil, ((HB.out.setCell (p := ⟨w.heap.size, 0, none⟩) (Nat.le_refl _) _).setCell (p := ⟨w.heap.size, 1, none⟩) (Nat.le_refl _) _).setCell (p := ⟨w.heap.size, 2, none⟩) (Nat.le_refl _) _⟩
    | true =>
      obtain ⟨x, hx, hxn⟩ := isAt_get s l hat
      have hg : rgot s l = (x, 0) := by unfold rgot; rw [if_neg (by rw [hv]; decide), if_pos hat, hx]; rfl
      rw [hg]
      rw [hat] at HF
      obtain ⟨A', c', hvv, hc, hm, hr⟩ := h.own.reads
      obtain ⟨rfl, rfl⟩ : A = A' ∧ c = c' := by injection hvv with h1 _ h2; exact ⟨h1, h2⟩
      have hr2 := hr.bound.below hal
      obtain ⟨ad, A1, cp1, hA0, hFa, k0, k1, k2, l1, m1, r1⟩ := at_RFile hr2 hx
      subst hA0
      have hcl := (hal.block rb hrlt).trans h.cells
      have hlt := (List.getElem?_eq_some_iff.1 hx).1
      have HX := Lib.hid r1
      clear hv hg h hat hx hvv hr hr2 r1 hc
      generalize kp s l = k at HF k0 k1 k2 hlt
      go_enter Tryd.func134, Tryd.ntmps134
      go_wp2_with fail
      refine (HV.out _).mono ?_
      rintro e w1 ⟨rfl, rfl⟩
      go_wp2_with fail
      refine (HF.out _ hal).mono ?_
      rintro e w2 ⟨rfl, nd, rfl⟩
      have hq2 : ((w.alloc (.cells #[.string ⟨#[]⟩, .slice none 0 0, .int .i64 0] 191)).drewN nd).heap[w.heap.size]? = some (.cells #[.string ⟨#[]⟩, .slice none 0 0, .int .i64 0] 191 (0, 0)) := hq
      have hal2 : Below w.heap.size w ((w.alloc (.cells #[.string ⟨#[]⟩, .slice none 0 0, .int .i64 0] 191)).drewN nd) := ⟨hal.os, hal.tape, hal.output, hal.size, hal.block⟩
      have hcl2 : ((w.alloc (.cells #[.string ⟨#[]⟩, .slice none 0 0, .int .i64 0] 191)).drewN nd).heap[rb]? = _ := hcl
      have k0' : ((w.alloc (.cells #[.string ⟨#[]⟩, .slice none 0 0, .int .i64 0] 191)).drewN nd).cell? (ad.add (k * 3)) = _ := k0
      have k1' : ((w.alloc (.cells #[.string ⟨#[]⟩, .slice none 0 0, .int .i64 0] 191)).drewN nd).cell? ⟨(ad.add (k * 3)).block, (ad.add (k * 3)).off + 1, none⟩ = _ := k1
      have k2' : ((w.alloc (.cells #[.string ⟨#[]⟩, .slice none 0 0, .int .i64 0] 191)).drewN nd).cell? ⟨(ad.add (k * 3)).block, (ad.add (k * 3)).off + 2, none⟩ = _ := k2
      have hrd2 := HX.out.keep (W' := (w.alloc (.cells #[.string ⟨#[]⟩, .slice none 0 0, .int .i64 0] 191)).drewN nd) fun _ _ _ => rfl
      clear k0 k1 k2 hcl HX hq hal
      generalize (w.alloc (.cells #[.string ⟨#[]⟩, .slice none 0 0, .int .i64 0] 191)).drewN nd = w2 at hq2 hal2 hcl2 k0' k1' k2' hrd2 ⊢
      have z0 : w2.cell? ⟨w.heap.size, 0, none⟩ = some (.string ⟨#[]⟩) := cell_of_row w2 _ 0 _ _ _ hq2
      have z1 : w2.cell? ⟨w.heap.size, 1, none⟩ = some (.slice none 0 0) := cell_of_row w2 _ 1 _ _ _ hq2
      have z2 : w2.cell? ⟨w.heap.size, 2, none⟩ = some (.int .i64 0) := cell_of_row w2 _ 2 _ _ _ hq2
      have f0 : w2.frozen? ⟨w.heap.size, 0, none⟩ = false := frozen_of_row w2 _ 0 _ _ hq2
      have f1 : w2.frozen? ⟨w.heap.size, 1, none⟩ = false := frozen_of_row w2 _ 1 _ _ hq2
      have f2 : w2.frozen? ⟨w.heap.size, 2, none⟩ = false := frozen_of_row w2 _ 2 _ _ hq2
      have c1 : w2.cell? ⟨rb, 1, none⟩ = some (.slice (some ad) l.length c) := cell_of_row w2 rb 1 _ _ _ hcl2
      have hab : (ad.add (k * 3)).block ≠ w.heap.size := by rw [block_add]; have := hFa.2; omega
      have hzlt : w.heap.size < w2.heap.size := (Array.getElem?_eq_some_iff.1 hq2).1
      have HB := Lib.hid (And.intro hal2 hrd2)
      clear hq2 hal2 hcl2 hrd2
      go_wp2
      refine bodyPost_ret (v := .tuple #[.agg #[.string x.name, .slice A1 x.b.length cp1, .int .i64 x.loose], .int .i64 0]) (by simp [results, Tryd.results134, go_sem, z0, z1, z2, hzlt]) rfl ?_
      obtain ⟨hb, hrd⟩ := HB.out
      refine ⟨A1, cp1, rfl, l1, m1, ?_, ((hb.setCell (p := ⟨w.heap.size, 0, none⟩) (Nat.le_refl _) _).setCell (p := ⟨w.heap.size, 1, none⟩) (Nat.le_refl _) _).setCell (p := ⟨w.heap.size, 2, none⟩) (Nat.le_refl _) _⟩
      exact (((hrd.far (p := ⟨w.heap.size, 0, none⟩) (fun hk => Nat.lt_irrefl _ hk.2) _).far (p := ⟨w.heap.size, 1, none⟩) (fun hk => Nat.lt_irrefl _ hk.2) _).far (p := ⟨w.heap.size, 2, none⟩) (fun hk => Nat.lt_irrefl _ hk.2) _).mono fun k hk => ⟨hk.1.1, hk.1.2, hk.2⟩
end Go.Proofs.YtfjndjbpgcggkaaDoor
