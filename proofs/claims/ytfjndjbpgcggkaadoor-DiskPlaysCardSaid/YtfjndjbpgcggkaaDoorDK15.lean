/- disk.Rename: walked. -/
import Derived.Test.YtfjndjbpgcggkaaDoorDK14
import Derived.WideShapes
set_option linter.unusedVariables false
set_option linter.unusedSimpArgs false
namespace Go.Proofs.YtfjndjbpgcggkaaDoor
open Go.RowKit
attribute [local go_sem] Same.cell

theorem bytes_ext2 {a b : ByteArray} (h : a.toList = b.toList) : a = b := Go.WideShapes.bytes_inj (by rwa [ByteArray.toList_eq, ByteArray.toList_eq] at h)
theorem look_any {w : World} {F : Foot} {db mb clock : Nat} {m : Ents} {room : Int} {c : FObjs} (H : DiskIn w F db mb clock m room c) (q : ByteArray) :
    ∃ (A : Option Addr) (cp : Nat) (j : Int), ∀ W : World, W.heap[mb]? = some (.map (ents m).toArray clock) → (Instr.lookup 95 (.map (some mb)) (.string q) false).run Tryd.prog W = .ok (.agg #[.slice A (szAt flen q c) cp, .int .i64 j]) W := by
  rcases look_map (mb := mb) (clock := clock) mDisk q H.e with ⟨f, v, hl, ⟨A1, cp1, rfl, l1, l2, hrd⟩, hrun⟩ | ⟨hl, hrun⟩
  · have hsz : szAt flen q c = f.1.length := by unfold szAt; rw [hl]; rfl
    rw [hsz]
    exact ⟨A1, cp1, f.2, fun W hW => (hrun W hW).1⟩
  · have hsz : szAt flen q c = 0 := by unfold szAt; rw [hl]
    rw [hsz]
    exact ⟨none, 0, 0, fun W hW => (hrun W hW).1⟩

/-- What Rename tells, and leaves. -/
def drenE (p q : ByteArray) (c : FObjs) : Int := if validName q = false then 6 else (dfound p c).2
def drenC (p q : ByteArray) (c : FObjs) : FObjs := if validName q = false ∨ (dfound p c).2 ≠ 0 ∨ p = q then c else odel p (oput q (dfound p c).1 c)

theorem ren_sum (p q : ByteArray) (f : List Int × Nat) (c : FObjs) (hl : look p c = some f) (hpq : p ≠ q) : (osum flen (odel p (oput q f c)) : Nat) + szAt flen q c = osum flen c ∧ look p (oput q f c) = some f := by
  have h1 := osum_put (f := flen) q f c
  have h2 : look p (oput q f c) = some f := (look_oput_other q p f c hpq).trans hl
  have h3 := osum_del (f := flen) p f (oput q f c) h2
  exact ⟨by omega, h2⟩

set_option maxHeartbeats 4000000 in
set_option maxRecDepth 100000 in
theorem dRename_any (db : Nat) (p q : ByteArray) (w : World) (F : Foot) (room : Int) (c : FObjs) (h : DiskAt w F db room c) (ok : DOk room c) (hs : p.size ≤ 35184372088832) (hs2 : q.size ≤ 35184372088832) (hT : TabsBelow w.heap.size w) :
    Calls Tryd.prog 22 #[.pointer (some ⟨db, 0, none⟩), .string p, .string q] w (DPost w F db room (drenC p q c) (drenE p q c)) := by
  have HG := Lib.hid h
  obtain ⟨mb, clock, m, h⟩ := h
  have HFD := Lib.hid (dfound_any db mb clock m p w F room c h hs hT)
  have HV := Lib.hid (fun w1 => Valid_any q w1 hs2)
  have HT := Lib.hid hT
  have hok := dfound_ok p c
  have hslt := h.slt
  have hmlt := h.mlt
  have H := Lib.hid h
  have t1 := ok.t1
  clear hT h
  unfold drenC drenE
  obtain ⟨f, hf⟩ : ∃ f, Hid ((dfound p c).1 = f) := ⟨_, rfl⟩
  obtain ⟨e0, he0⟩ : ∃ e, Hid ((dfound p c).2 = e) := ⟨_, rfl⟩
  rw [hf.out, he0.out] at HFD hok
  rw [hf.out, he0.out]
  cases hv : validName q with
  | false =>
    rw [if_pos (.inl rfl), if_pos rfl]
    rw [hv] at HV
    clear hok hv
    go_enter Tryd.func22, Tryd.ntmps22
    go_wp2_with fail
    refine HFD.out.mono ?_
    rintro e w1 ⟨A1, cp1, rfl, l1, l2, hrd, h1⟩
    have h2 : Below w.heap.size w (w1.alloc (.cells #[.slice A1 f.1.length cp1, .int .i64 f.2] 99)) := h1.alloc h1.size _
    have HB := Lib.hid h2
    clear h1 h2 hrd
    go_wp2_with fail
    refine (HV.out _ (fun w' hb => HT.out w' (HB.out.trans (hb.mono HB.out.size)))).mono ?_
    rintro e w3 ⟨rfl, h3⟩
    have h4 := HB.out.trans (h3.mono HB.out.size)
    go_wp2
    go_ret
    exact ⟨rfl, HG.out.grow h4, Keeps.of_below h4 _⟩
  | true =>
    rw [hv] at HV
    clear hv
    by_cases e00 : e0 = 0
    · subst e00
      by_cases hpq : p = q
      · rw [if_pos (.inr (.inr hpq)), if_neg (by decide)]
        subst hpq
        clear hok
        go_enter Tryd.func22, Tryd.ntmps22
        go_wp2_with fail
        refine HFD.out.mono ?_
        rintro e w1 ⟨A1, cp1, rfl, l1, l2, hrd, h1⟩
        have h2 : Below w.heap.size w (w1.alloc (.cells #[.slice A1 f.1.length cp1, .int .i64 f.2] 99)) := h1.alloc h1.size _
        have HB := Lib.hid h2
        clear h1 h2 hrd
        go_wp2_with fail
        refine (HV.out _ (fun w' hb => HT.out w' (HB.out.trans (hb.mono HB.out.size)))).mono ?_
        rintro e w3 ⟨rfl, h3⟩
        have h4 := HB.out.trans (h3.mono HB.out.size)
        go_wp2
        go_ret
        exact ⟨rfl, HG.out.grow h4, Keeps.of_below h4 _⟩
      · rw [if_neg (by rintro (h | h | h); cases h; exact h rfl; exact hpq h), if_neg (by simp)]
        have Hl := Lib.hid (hok rfl).1
        have hrs := ren_sum p q f c Hl.out hpq
        obtain ⟨t, ht⟩ : ∃ t, Hid (osum flen c = t) := ⟨_, rfl⟩
        obtain ⟨sz, hsz⟩ : ∃ t, Hid (szAt flen q c = t) := ⟨_, rfl⟩
        rw [ht.out] at t1
        rw [ht.out, hsz.out] at hrs
        have Hrs := Lib.hid hrs
        have hszt : sz ≤ t := by omega
        have hlen := H.out.len _ (look_mem p f c Hl.out)
        have hcw := H.out.cells
        rw [ht.out] at hcw
        have Hcw := Lib.hid hcw
        obtain ⟨Aq, cpq, jq, hlq⟩ := look_any H.out q
        rw [hsz.out] at hlq
        have hpl : (p.toList == q.toList) = false := by rw [beq_eq_false_iff_ne]; exact fun e => hpq (bytes_ext2 e)
        have hfd := field0
        clear hrs hok hcw
        go_enter Tryd.func22, Tryd.ntmps22
        go_wp2_with fail
        refine HFD.out.mono ?_
        rintro e w1 ⟨A1, cp1, rfl, l1, l2, hrd, h1⟩
        have h2 : Below w.heap.size w (w1.alloc (.cells #[.slice A1 f.1.length cp1, .int .i64 f.2] 99)) := h1.alloc h1.size _
        have hfb : (w1.alloc (.cells #[.slice A1 f.1.length cp1, .int .i64 f.2] 99)).heap[w1.heap.size]? = some (.cells #[.slice A1 f.1.length cp1, .int .i64 f.2] 99 (0, 0)) := heap_alloc_new w1 _
        have hrd2 := hrd.alloc (.cells #[.slice A1 f.1.length cp1, .int .i64 f.2] 99)
        have hq1 := h1.size
        have hq2 : w1.heap.size < (w1.alloc (.cells #[.slice A1 f.1.length cp1, .int .i64 f.2] 99)).heap.size := by simp
        have HH := Lib.hid (And.intro h2 (And.intro hfb (And.intro hrd2 (And.intro hq1 hq2))))
        clear h1 h2 hrd hfb hrd2 hq1 hq2
        go_wp2_with fail
        generalize w1.alloc (.cells #[.slice A1 f.1.length cp1, .int .i64 f.2] 99) = w2 at HH ⊢
        generalize w1.heap.size = r at HH ⊢
        refine (HV.out _ (fun w' hb => HT.out w' (HH.out.1.trans (hb.mono HH.out.1.size)))).mono ?_
        rintro e w3 ⟨rfl, h3⟩
        obtain ⟨h2, hfb, hrd2, hq1, hq2⟩ := HH.out
        have h4 := h2.trans (h3.mono h2.size)
        have hfb3 := (h3.block r hq2).trans hfb
        have hrd3 := hrd2.below h3
        have hr2 : r < w3.heap.size := Nat.lt_of_lt_of_le hq2 h3.size
        have HH3 := Lib.hid (And.intro h4 (And.intro hfb3 hrd3))
        clear h2 hfb hrd2 hq2 h3 h4 hfb3 hrd3 HH
        obtain ⟨h4, hfb3, hrd3⟩ := HH3.out
        have hdb3 : db < w3.heap.size := Nat.lt_of_lt_of_le hslt h4.size
        have hmb3 : mb < w3.heap.size := Nat.lt_of_lt_of_le hmlt h4.size
        have hcl3 := (h4.block db hslt).trans Hcw.out
        have hmp3 := (h4.block mb hmlt).trans H.out.map
        have c0 : w3.cell? ⟨db, 0, none⟩ = some (.map (some mb)) := cell_of_row w3 db 0 _ _ _ hcl3
        have c2 : w3.cell? ⟨db, 2, none⟩ = some (.int .i64 t) := cell_of_row w3 db 2 _ _ _ hcl3
        have g2 : w3.frozen? ⟨db, 2, none⟩ = false := frozen_of_row w3 db 2 _ _ hcl3
        have hlk : ∀ D : Same NoF w3, (Instr.lookup 95 (.map (some mb)) (.string q) false).run Tryd.prog D.world = .ok (.agg #[.slice Aq sz cpq, .int .i64 jq]) D.world := fun D => hlq D.world ((D.block mb hmb3 id).trans hmp3)
        have hNF : ¬ NoF db := id
        have hcl4 : (w3.setCell ⟨db, 2, none⟩ (.int .i64 ((t : Int) - sz))).drew.heap[db]? = some (.cells #[.map (some mb), .int .i64 room, .int .i64 ((t : Int) - sz)] 97 (0, 0)) := heap_setCell_same w3 db 2 _ _ (.int .i64 ((t : Int) - sz)) hcl3
        have hu4 : ∀ j, j ≠ db → (w3.setCell ⟨db, 2, none⟩ (.int .i64 ((t : Int) - sz))).drew.heap[j]? = w3.heap[j]? := fun j hn => Below.heap_setCell w3 ⟨db, 2, none⟩ (.int .i64 ((t : Int) - sz)) j hn
        have hs4 : (w3.setCell ⟨db, 2, none⟩ (.int .i64 ((t : Int) - sz))).drew.heap.size = w3.heap.size := World.size_setCell ..
        have hk4 : Keeps F w (w3.setCell ⟨db, 2, none⟩ (.int .i64 ((t : Int) - sz))).drew := ((Keeps.of_below h4 F).setCell (p := ⟨db, 2, none⟩) (fun _ => H.out.fs) _).drew
        have HH4 := Lib.hid (And.intro hcl4 (And.intro hu4 (And.intro hs4 hk4)))
        clear hcl3 hmp3 hcl4 hu4 hs4 hk4 h4 hfb3 hrd3 hlq
        go_wp2_with fail
        refine wp_region_plan [0, 0, 0, 0, 0, 0, 0, 0, 0, 0, 0, 0, 0, 2, 2, 2] (fun w' => ∃ D : Same NoF w3, w' = D.world) (by kernel_rfl) (by kernel_rfl) InSame.start ?_
        simp only [sel, selE, Nat.reduceEqDiff, reduceIte]
        repeat (go_big_quiet_step (fail))
        refine wpQuiet_nil ?_
        refine wpE_nil ?_
        go_wp2_with fail
        clear hlk c0 c2 g2
        generalize (w3.setCell ⟨db, 2, none⟩ (.int .i64 ((t : Int) - sz))).drew = w4 at HH4 ⊢
        obtain ⟨hcl4, hu4, hs4, hk4⟩ := HH4.out
        obtain ⟨h4, hfb3, hrd3⟩ := HH3.out
        have hfr4 := (hu4 r (by omega)).trans hfb3
        have hrd4 : RS (kInt .u8) w4 (fun k => F k ∧ k ≠ db ∧ k ≠ mb ∧ k < w.heap.size) A1 f.1.length f.1 := hrd3.keep fun k hk _ => hu4 k hk.2.1
        have hdb4 : db < w4.heap.size := by omega
        have hr4 : r < w4.heap.size := by omega
        have c0 : w4.cell? ⟨db, 0, none⟩ = some (.map (some mb)) := cell_of_row w4 db 0 _ _ _ hcl4
        have p0 : w4.cell? ⟨r, 0, none⟩ = some (.slice A1 f.1.length cp1) := cell_of_row w4 r 0 _ _ _ hfr4
        have p1 : w4.cell? ⟨r, 1, none⟩ = some (.int .i64 f.2) := cell_of_row w4 r 1 _ _ _ hfr4
        have hNFr : ¬ NoF r := id
        have hU := H.out.toU (W := w4.drew) (fun k hk hn => (hu4 k hn).trans (h4.block k hk)) hcl4
        obtain ⟨m', clock', hput, hU5⟩ := hU.put q f (.agg #[.slice A1 f.1.length cp1, .int .i64 f.2]) ⟨A1, cp1, rfl, l1, l2, hrd4.drew.mono fun k hk => ⟨hk.1, hk.2.1, hk.2.2.1⟩⟩ hlen
        obtain ⟨hdel, hU6⟩ := hU5.del p (by rw [Hrs.out.2]; exact fun h => by cases h)
        have e0 : (World.setMap w4.drew mb m' clock').cell? ⟨db, 0, none⟩ = some (.map (some mb)) := cell_of_row _ db 0 _ _ _ hU5.cells
        have HF := Lib.hid (And.intro hU6 hk4)
        clear hcl4 hu4 hs4 hk4 h4 hfb3 hrd3 hfr4 hrd4 hU hU5 hU6
        refine wp_region_plan [0, 0, 0, 0, 0, 0, 2] (fun w' => ∃ D : Same NoF w4, w' = D.world) (by kernel_rfl) (by kernel_rfl) InSame.start ?_
        simp only [sel, selE, Nat.reduceEqDiff, reduceIte]
        repeat (go_big_quiet_step (fail))
        refine wpQuiet_nil ?_
        refine wpE_nil ?_
        go_wp2
        go_ret
        obtain ⟨hU6, hk4⟩ := HF.out
        have hte : (t : Int) - sz = (osum flen (odel p (oput q f c)) : Nat) := by have := Hrs.out.1; omega
        have hU7 : DiskU (World.setMap (World.setMap w4.drew mb m' clock') mb (mdel p m') clock') F db mb clock' (mdel p m') room (osum flen (odel p (oput q f c)) : Nat) (odel p (oput q f c)) := by rw [← hte]; exact hU6
        exact ⟨rfl, hU7.disk.mono fun k hk => .inl hk, ((hk4.drew).setMap (fun _ => H.out.fm) _ _).setMap (fun _ => H.out.fm) _ _⟩
    · rw [if_neg (show ¬ (true = false) by decide)]
      have eb : (e0 == 0) = false := by rw [beq_eq_false_iff_ne]; exact e00
      rw [if_pos (show true = false ∨ e0 ≠ 0 ∨ p = q from .inr (.inl e00))]
      have en : (e0 != 0) = true := by rw [bne_iff_ne]; exact e00
      clear hok e00
      go_enter Tryd.func22, Tryd.ntmps22
      go_wp2_with fail
      refine HFD.out.mono ?_
      rintro e w1 ⟨A1, cp1, rfl, l1, l2, hrd, h1⟩
      have h2 : Below w.heap.size w (w1.alloc (.cells #[.slice A1 f.1.length cp1, .int .i64 f.2] 99)) := h1.alloc h1.size _
      have HB := Lib.hid h2
      clear h1 h2 hrd
      go_wp2_with fail
      refine (HV.out _ (fun w' hb => HT.out w' (HB.out.trans (hb.mono HB.out.size)))).mono ?_
      rintro e w3 ⟨rfl, h3⟩
      have h4 := HB.out.trans (h3.mono HB.out.size)
      go_wp2
      go_ret
      exact ⟨rfl, HG.out.grow h4, Keeps.of_below h4 _⟩
end Go.Proofs.YtfjndjbpgcggkaaDoor
