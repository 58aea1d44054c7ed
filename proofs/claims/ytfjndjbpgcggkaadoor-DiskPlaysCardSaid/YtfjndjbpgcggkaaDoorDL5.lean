/- The law DiskPlays: one call by both: Append. -/
import Derived.Test.YtfjndjbpgcggkaaDoorDL3
set_option linter.unusedVariables false
set_option linter.unusedSimpArgs false
namespace Go.Proofs.YtfjndjbpgcggkaaDoor
open Go.RowKit
attribute [local go_sem] Same.cell Same.frozen

section
variable {B db rb n : Nat} {w : World} {F FR G : Foot} {room : Int} {c : FObjs} {l : List RFile} {a : DAct}

set_option maxRecDepth 100000 in
set_option maxHeartbeats 8000000 in
theorem do_app (A4 : Option Addr) (c4 : Nat) (A5 : Option Addr) (c5 : Nat) (h : Both B w F FR db rb room n c l) (hn : n ≤ 1000) (ha : a.Small) (hro : 0 ≤ room ∧ room ≤ 9223372036854775807) (r4 : RS (kInt .u8) w G A4 a.B.length a.B) (hG : ∀ k, G k → k < B) (hw : a.Way = 0) :
    Calls Tryd.prog 38 #[.pointer (some ⟨db, 0, none⟩), .pointer (some ⟨rb, 0, none⟩), .agg #[.int .i64 a.Way, .int .i64 a.N, .string a.P, .string a.Q, .slice A4 a.B.length c4, .slice A5 a.Keep.length c5]] w (DoP B w F FR db rb room n) := by
  have e0 : (a.Way == 0) = true := by rw [beq_iff_eq]; exact hw
  obtain ⟨ha1, ha2, ha3, ha4⟩ := ha
  have HBw := h.d.env.le
  have hbF1 : ¬ F w.heap.size := fun hk => by have := h.d.fin _ hk; omega
  have hbF3 : ¬ FR w.heap.size := fun hk => by have := h.rin _ hk; omega
  obtain ⟨nB, hnB⟩ : ∃ nB, Hid (a.B.length = nB) := ⟨_, rfl⟩
  obtain ⟨er, her⟩ : ∃ er, Hid (dappE a.P nB room c = er) := ⟨_, rfl⟩
  have her2 : Hid (rappE a.P nB room l = er) := (h.ag.appE a.P nB room).trans her.out
  have eer : (er == er) = true := by rw [beq_iff_eq]
  rw [hnB.out] at ha3 r4 ⊢
  have H := Lib.hid h
  have Hr4 := Lib.hid r4
  have r41 := r4.alloc (.cells #[.int .i64 a.Way, .int .i64 a.N, .string a.P, .string a.Q, .slice A4 nB c4, .slice A5 a.Keep.length c5] 72)
  clear hw h r4
  go_enter Tryd.func38, Tryd.ntmps38
  go_wp2_with (first
    | (at_builtin
       refine wpList_append_S rfl tBytes _ (.tmp 15) rfl (K := kInt .u8) (F := NoF) (v := .slice none 0 0) (xs := []) rfl rfl OwnS.nil r41 (fun k hk => by simp [Value.ownBlock] at hk) ?_ ?_ ?_))
  · (try simp); omega
  · (try simp); omega
  intro v2 w2 hA
  have hbx0 : (w.alloc (.cells #[.int .i64 a.Way, .int .i64 a.N, .string a.P, .string a.Q, .slice A4 nB c4, .slice A5 a.Keep.length c5] 72)).heap[w.heap.size]? = some (.cells #[.int .i64 a.Way, .int .i64 a.N, .string a.P, .string a.Q, .slice A4 nB c4, .slice A5 a.Keep.length c5] 72 (0, 0)) := heap_alloc_new w _
  have hs1 : w.heap.size < (w.alloc (.cells #[.int .i64 a.Way, .int .i64 a.N, .string a.P, .string a.Q, .slice A4 nB c4, .slice A5 a.Keep.length c5] 72)).heap.size := by simp
  have hbx := (hA.grown.block w.heap.size hs1 (by simp [Value.ownBlock])).trans hbx0
  have hls : ∀ j, v2.ownBlock = some j → w.heap.size < j := fun j hj => by
    rcases hA.lies j hj with h | h
    · simp [Value.ownBlock] at h
    · have := h.1; omega
  have hO2 : OwnS (kInt .u8) 5 w2 (fun j => w.heap.size < j) v2 a.B := hA.own.flat (flat_int _) hls
  have hb2 : Below w.heap.size w w2 := ((Below.refl _ _).alloc (Nat.le_refl _) _).trans (((Below.refl _ _).grown hA.grown (Nat.le_refl _) (by simp [Value.ownBlock])).mono (by simp))
  obtain ⟨A7, c7, rfl, hl7, hm7, hr7⟩ := hO2.reads
  rw [hnB.out] at hl7 hr7 hO2 hls ⊢
  have hs2 : w.heap.size < w2.heap.size := Nat.lt_of_lt_of_le hs1 hA.grown.size
  have z0 : w2.cell? ⟨w.heap.size, 2, none⟩ = some (.string a.P) := cell_of_row w2 _ 2 _ _ _ hbx
  have hP2 := H.out.below hb2
  have H2 := Lib.hid (And.intro hb2 (And.intro hbx (And.intro hO2 hP2)))
  clear hA r41 hbx0 hs1 hbx hO2 hb2 hP2
  go_wp2_with fail
  refine (wApp B db a.P A7 nB c7 a.B w2 F (fun j => w.heap.size < j) room c H2.out.2.2.2.d (by omega) hr7 ⟨hl7, hm7⟩ (fun k hk hF => by have hk : w.heap.size < k := hk; have := H.out.d.fin k hF; omega) (by have := H.out.tot; omega)).mono ?_
  rintro e w3 ⟨rfl, hd3, hk3⟩
  rw [her.out]
  have hs3 := hk3.size
  have hO3 := H2.out.2.2.1.keeps hk3 (fun k hk hF => by have hk : w.heap.size < k := hk; have := H.out.d.fin k hF; omega)
  have hbx3 := (hk3.block w.heap.size hs2 hbF1).trans H2.out.2.1
  have H3 := Lib.hid (And.intro hd3 (And.intro hk3 hbx3))
  clear hd3 hk3 hr7 z0 hbx3
  go_wp2
  go_loopw [9] (fun q wr => ∃ (i : Nat) (xs : List Int), q = .int .i64 i ∧ i ≤ nB ∧ Hid (OwnS (kInt .u8) 5 wr (fun j => w.heap.size < j) (.slice A7 nB c7) xs) ∧ Hid (Keeps (fun j => w.heap.size < j ∧ j < w2.heap.size) w3 wr)) (fun q _ => nB - (intOf q).toNat)
  case atStart => exact ⟨0, a.B, rfl, Nat.zero_le _, hO3, Keeps.refl _ _⟩
  case round =>
    obtain ⟨i, xs, rfl, hi, hO, hK⟩ := hrel
    by_cases hlt : i < nB
    · have hxl : i < xs.length := by
        obtain ⟨A', c', e', _⟩ := hO.out.reads
        injection e' with _ e2 _
        omega
      obtain ⟨y, hy⟩ : ∃ y, xs[i]? = some y := ⟨_, List.getElem?_eq_getElem hxl⟩
      obtain ⟨A', c', e', hn', hm', hrr⟩ := hO.out.reads
      obtain ⟨rfl, hln, rfl⟩ : A7 = A' ∧ nB = xs.length ∧ c7 = c' := by injection e' with h1 h2 h3; exact ⟨h1, h2, h3⟩
      obtain ⟨ad, hA0, hFa, k0⟩ := at_int hrr hy
      subst hA0
      obtain ⟨g, hg⟩ := hO.out.first
      have hO' := hO.out
      rw [hg] at hO'
      obtain ⟨cur, hcur, hcc, hcs, hcn, hFg⟩ := hO'.cur
      have ha2 : ad.add i = ⟨g, i, none⟩ := by
        rw [hg]
        unfold Addr.add
        split
        · rename_i h; rw [h]
        · simp
      rw [ha2] at k0
      have g0 : wr.frozen? ⟨g, i, none⟩ = false := frozen_of_row wr g i _ _ hcur
      have hglt : g < w2.heap.size := by
        have := (hO.out.lt g (by rw [hg]; rfl)).2
        have := (H2.out.2.2.1.lt g (by rw [hg]; rfl)).2
        exact this
      have HO := Lib.hid (And.intro hO' (And.intro hFg hg))
      clear hO' hcur hcs hcc hcn hFa hrr e' hn' hm' hy hxl hln hFg hg hls
      go_wp2_with fail
      go_roundw
      case rel =>
        obtain ⟨hO', hFg, hg⟩ := HO.out
        have hset := OwnS.set1 (K := kInt .u8) (x := bits .xor .u8 y 255) (u := .int .u8 (bits .xor .u8 y 255)) rfl (flat_int _) hO' hlt (fun _ _ => rfl)
        rw [← hg] at hset
        exact ⟨i + 1, _, by go_num, by omega, hset, hK.out.setCell (p := ⟨g, i, none⟩) (fun _ => ⟨hFg, hglt⟩) _⟩
      case measure => simp [intOf]; omega
    · have hKw : Keeps F w wr := (((Keeps.of_below H2.out.1 F).trans H3.out.2.1).step hK.out fun k hk hlt => by have := hk.1; omega)
      have hKd : Keeps F w wr.drew := hKw.drew
      have hdr : DW B wr.drew (Grow F w wr.drew) db room (dappC a.P a.B room c) := by
        refine ((H3.out.1.keeps hK.out (fun k h1 h2 => ?_) (fun k h2 => ?_)).below (drawn_below wr 1)).mono (fun k hk => ?_) (fun k hk => ?_) (fun k hk => ?_)
        · rcases h1 with h1 | h1
          · have := H.out.d.fin k h1; have := h2.1; omega
          · have := h1.1; have := h2.2; omega
        · have := h2.1; omega
        · have := hKw.size
          have := hK.out.size
          rcases hk with hk | hk
          · exact .inl hk
          · exact .inr ⟨by have := hk.1; omega, by show k < wr.heap.size; have := hk.2; omega⟩
        · rcases hk with hk | hk
          · exact H.out.d.fb k hk
          · have := hk.1; omega
        · rcases hk with hk | hk
          · have := H.out.d.fin k hk; have := hKw.size; show k < wr.heap.size; omega
          · exact hk.2
      have hbxr : wr.heap[w.heap.size]? = some (.cells #[.int .i64 a.Way, .int .i64 a.N, .string a.P, .string a.Q, .slice A4 nB c4, .slice A5 a.Keep.length c5] 72 (0, 0)) := (hK.out.block w.heap.size (by omega) (fun h => by have := h.1; omega)).trans H3.out.2.2
      have q2 : wr.cell? ⟨w.heap.size, 2, none⟩ = some (.string a.P) := cell_of_row wr _ 2 _ _ _ hbxr
      have q4 : wr.cell? ⟨w.heap.size, 4, none⟩ = some (.slice A4 nB c4) := cell_of_row wr _ 4 _ _ _ hbxr
      have hwl : w.heap.size < wr.heap.size := (Array.getElem?_eq_some_iff.1 hbxr).1
      have r4r : RS (kInt .u8) wr.drew G A4 nB a.B := Hr4.out.keep fun k hk hl => hKd.block k hl fun hF => by have := hG k hk; have := H.out.d.fb k hF; omega
      have HX := Lib.hid (And.intro hKd (And.intro hdr r4r))
      clear hKw hKd hdr hbxr r4r hO hK
      go_wp2_with fail
      refine wp_region_plan [0, 1, 0, 0, 0, 0, 0, 1, 1, 1] (fun w' => ∃ D : Same FR wr, w' = D.world) (by kernel_rfl) (by kernel_rfl) InSame.start ?_
      simp only [sel, selE, Nat.reduceEqDiff, reduceIte]
      repeat (go_big_quiet_step (fail))
      refine wpQuiet_nil ?_
      refine wpE_cons (fun N hN => ?_)
      go_wp2_with fail
      refine (num_any _ wr.drew).mono ?_
      rintro e w2' ⟨rfl, rfl⟩
      go_wp2
      refine hN _ _ InSame.start ?_
      clear hN N
      refine wpE_cons (fun N hN => ?_)
      go_wp2_with fail
      obtain ⟨A, cc, hr2⟩ := H.out.r2 HX.out.1
      have hra := rappend_any rb a.P A4 c4 a.B wr.drew FR G room l A cc hr2 (by have := H.out.ln; omega) (by rw [H.out.ag.sum]; have := H.out.tot; omega) hro (by omega) (by rw [hnB.out]; exact HX.out.2.2) (by rw [hnB.out]; omega) (fun x hx => ⟨(H.out.lo x hx).1, (H.out.lo x hx).2.1⟩)
      rw [hnB.out] at hra
      refine hra.mono ?_
      rintro e w5 ⟨rfl, hr5, hk5⟩
      rw [her2.out]
      have HC5 : Hid (∀ k, k < wr.heap.size → ¬ FR k → w5.heap[k]? = wr.heap[k]?) := fun k hk hn => hk5.block k hk (fun h => hn (by have h : k = rb := h; rw [h]; exact hr2.fs))
      have HR5 := Lib.hid (And.intro hr5 (hk5.mono (T := FR) (fun k _ h => by have h : k = rb := h; rw [h]; exact hr2.fs)))
      clear hr5 hk5 hr2 hra
      go_wp2
      refine hN _ _ ⟨⟨w5, HC5.out⟩, rfl⟩ ?_
      clear hN N
      refine wpE_cons (fun N hN => ?_)
      go_wp2
      refine hN _ _ ⟨⟨w5, HC5.out⟩, rfl⟩ ?_
      clear hN N
      refine wpE_cons (fun N hN => ?_)
      go_wp2
      refine hN _ _ ⟨⟨w5, HC5.out⟩, rfl⟩ ?_
      clear hN N
      refine wpE_nil ?_
      go_wp2
      go_ret
      exact DoP.mk (Below.refl _ _) H.out HX.out.2.1 HX.out.1 HR5.out.1 HR5.out.2 (H.out.ag.app a.P a.B room) (H.out.ko.app a.P a.B room) (by have := H.out.ln; have := rappL_len a.P a.B room l; omega) (by have := H.out.tot; have := tot_dappC a.P a.B room c; have := hnB.out; omega)

end
end Go.Proofs.YtfjndjbpgcggkaaDoor
