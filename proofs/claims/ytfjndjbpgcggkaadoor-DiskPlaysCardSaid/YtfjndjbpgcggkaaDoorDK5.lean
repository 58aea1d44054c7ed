/- disk.cut, Cut, Sync, Read, Used, Loose, New: walked. -/
import Derived.Test.YtfjndjbpgcggkaaDoorDK4
set_option linter.unusedVariables false
set_option linter.unusedSimpArgs false
namespace Go.Proofs.YtfjndjbpgcggkaaDoor
open Go.RowKit
attribute [local go_sem] Same.cell

/-- A store into the disk's map. -/
theorem disk_put {w W5 : World} {F : Foot} {db mb clock : Nat} {m : Ents} {room : Int} {c : FObjs} (s : ByteArray) (x : List Int × Nat) (v : Value) (H : DiskIn w F db mb clock m room c)
    (hk : ∀ k, k < w.heap.size → k ≠ db → W5.heap[k]? = w.heap[k]?) (hcl : W5.heap[db]? = some (.cells #[.map (some mb), .int .i64 room, .int .i64 (osum flen (oput s x c) : Nat)] 97 (0, 0)))
    (hv : repFile W5 (fun k => (F k ∧ k < w.heap.size ∨ (w.heap.size ≤ k ∧ k < W5.heap.size)) ∧ k ≠ db ∧ k ≠ mb) x v) (hx : x.1.length ≤ 1000000000000 ∧ x.2 ≤ x.1.length) (hK : Keeps F w W5) :
    ∃ m' clock', (Instr.mapUpdate 95 (.map (some mb)) (.string s) v).run Tryd.prog W5 = .ok () (World.setMap W5 mb m' clock') ∧
      DiskAt (World.setMap W5 mb m' clock') (Grow F w (World.setMap W5 mb m' clock')) db room (oput s x c) ∧ Keeps F w (World.setMap W5 mb m' clock') := by
  obtain ⟨m', clock', hwf', hput, hents⟩ := put_map (mb := mb) (clock := clock) mDisk s v H.e H.wf
  have hne := H.ne
  have hmlt := H.mlt
  have hs := hK.size
  have hlt5 : mb < W5.heap.size := by omega
  have hkk : ∀ k, k < w.heap.size → k ≠ db → k ≠ mb → (World.setMap W5 mb m' clock').heap[k]? = w.heap[k]? := fun k h0 h1 h2 => (setMap_other _ _ _ _ _ h2).trans (hk k h0 h1)
  have hwsz : (World.setMap W5 mb m' clock').heap.size = W5.heap.size := setMap_size _ _ _ _
  refine ⟨m', clock', hput W5 ((hk mb hmlt (Ne.symm hne)).trans H.map), ⟨mb, clock', m', ⟨(setMap_other _ _ _ _ _ hne).trans hcl, setMap_same _ _ _ _ hlt5, .inl H.fs, .inl H.fm, ?_, ?_, hwf', nodup_oput s x c H.nd⟩⟩, hK.setMap (fun _ => H.fm) _ _⟩
  · refine hents _ _ x ((H.e.bound.keep fun k hk _ => hkk k hk.2 hk.1.2.1 hk.1.2.2).mono fun k hk => ⟨.inl hk.1.1, hk.1.2⟩) ?_
    refine kFile.mono (kFile.keep (W' := World.setMap W5 mb m' clock') hv fun k hk _ => setMap_other _ _ _ _ _ hk.2.2) fun k hk => ⟨?_, hk.2⟩
    rcases hk.1 with h | h
    · exact .inl h.1
    · exact .inr ⟨h.1, by omega⟩
  · intro y hy
    rcases mem_oput s x c y hy with h | h
    · exact H.len y h
    · rw [h]; exact hx

theorem field0 (A : Option Addr) (L cp : Nat) (j : Int) (W : World) : (Instr.field 99 (.agg #[.slice A L cp, .int .i64 j]) 0).run Tryd.prog W = .ok (.slice A L cp) W := by kernel_rfl
theorem field1 (A : Option Addr) (L cp : Nat) (j : Int) (W : World) : (Instr.field 99 (.agg #[.slice A L cp, .int .i64 j]) 1).run Tryd.prog W = .ok (.int .i64 j) W := by kernel_rfl

/-- How much stays. -/
def clampN (n : Int) (l : Nat) : Nat := (min (max 0 n) (l : Int)).toNat
theorem clampN_eq (n : Int) (l : Nat) : min (max 0 n) (l : Int) = (clampN n l : Int) := by unfold clampN; omega
theorem clampN_le (n : Int) (l : Nat) : clampN n l ≤ l := by unfold clampN; omega
def VPost (w : World) (F : Foot) (db : Nat) (room : Int) (c' : FObjs) (en : Ending) (w' : World) : Prop :=
  en = .returned (.tuple #[]) ∧ DiskAt w' (Grow F w w') db room c' ∧ Keeps F w w'

set_option maxHeartbeats 4000000 in
set_option maxRecDepth 100000 in
theorem dcut_any (db : Nat) (s : ByteArray) (n : Int) (f : List Int × Nat) (w : World) (F : Foot) (room : Int) (c : FObjs) (h : DiskAt w F db room c) (ok : DOk room c) (hl : look s c = some f) (hn1 : -9223372036854775808 ≤ n) (hn2 : n ≤ 9223372036854775807) :
    Calls Tryd.prog 54 #[.pointer (some ⟨db, 0, none⟩), .string s, .int .i64 n] w (VPost w F db room (oput s (f.1.take (clampN n f.1.length), 0) c)) := by
  obtain ⟨mb, clock, m, h⟩ := h
  have hslt := h.slt
  have hmlt := h.mlt
  have hlen := h.len _ (look_mem s f c hl)
  have hsz : szAt flen s c = f.1.length := by unfold szAt; rw [hl]; rfl
  have hszt := szAt_le (f := flen) s c
  rw [hsz] at hszt
  obtain ⟨k, hk⟩ : ∃ k, Hid (clampN n f.1.length = k) := ⟨_, rfl⟩
  have hcl1 := clampN_eq n f.1.length
  have hcl2 := clampN_le n f.1.length
  rw [hk.out] at hcl1 hcl2 ⊢
  have hsum := osum_put (f := flen) s (f.1.take k, 0) c
  have hfk : flen (f.1.take k, 0) = k := by unfold flen; rw [List.length_take]; omega
  rw [hsz, hfk] at hsum
  obtain ⟨t, ht⟩ : ∃ t, Hid (osum flen c = t) := ⟨_, rfl⟩
  obtain ⟨t', ht'⟩ : ∃ t, Hid (osum flen (oput s (f.1.take k, 0) c) = t) := ⟨_, rfl⟩
  have tt := ok.t1
  rw [ht.out] at hszt hsum tt
  rw [ht'.out] at hsum
  rcases look_map (mb := mb) (clock := clock) mDisk s h.e with ⟨f', v, hl', ⟨A, cp, rfl, l1, l2, hrd⟩, hr⟩ | ⟨hl', -⟩
  · rw [hl] at hl'
    obtain rfl : f = f' := by injection hl'
    have hr0 := (hr w h.map).1
    have c0 : w.cell? ⟨db, 0, none⟩ = some (.map (some mb)) := cell_of_row w db 0 _ _ _ h.cells
    have hcl := h.cells
    rw [ht.out] at hcl
    have c2 : w.cell? ⟨db, 2, none⟩ = some (.int .i64 t) := cell_of_row w db 2 _ _ _ hcl
    have g2 : w.frozen? ⟨db, 2, none⟩ = false := frozen_of_row w db 2 _ _ hcl
    have H := Lib.hid h
    obtain ⟨L, hL⟩ : ∃ L, Hid (f.1.length = L) := ⟨_, rfl⟩
    rw [hL.out] at hr0 hszt hcl1 hcl2 l1 hrd hlen hsum
    have hcl3 := heap_setCell_same w db 2 _ _ (.int .i64 ((t : Int) - (L - k))) hcl
    have hk3 : Keeps F w (w.setCell ⟨db, 2, none⟩ (.int .i64 ((t : Int) - (L - k)))) := (Keeps.refl F w).setCell (p := ⟨db, 2, none⟩) (fun _ => h.fs) _
    have hu3 : ∀ j, j ≠ db → (w.setCell ⟨db, 2, none⟩ (.int .i64 ((t : Int) - (L - k)))).heap[j]? = w.heap[j]? := fun j hn => Below.heap_setCell _ _ _ _ hn
    have hs3 : (w.setCell ⟨db, 2, none⟩ (.int .i64 ((t : Int) - (L - k)))).heap.size = w.heap.size := World.size_setCell ..
    have e0 : (w.setCell ⟨db, 2, none⟩ (.int .i64 ((t : Int) - (L - k)))).cell? ⟨db, 0, none⟩ = some (.map (some mb)) := cell_of_row _ db 0 _ _ _ hcl3
    have hs3d : db < (w.setCell ⟨db, 2, none⟩ (.int .i64 ((t : Int) - (L - k)))).heap.size := by omega
    have hfd := field0
    have hcut := cut_hi tBytes .i64 A L cp k (by omega)
    have H3 := Lib.hid (And.intro hcl3 (And.intro hk3 (And.intro hu3 (And.intro hs3 hsum))))
    have Hr := Lib.hid (And.intro hrd hlen)
    clear h hr hcl hcl3 hk3 hu3 hs3 hrd hlen hsum hl hl' hsz hfk
    go_enter Tryd.func54, Tryd.ntmps54
    go_wp2
    clear c0 c2 g2
    generalize w.setCell ⟨db, 2, none⟩ (.int .i64 ((t : Int) - (L - k))) = w3 at H3 e0 hs3d ⊢
    have hNF : ¬ NoF db := id
    refine wp_region_plan [0, 0, 0, 0, 0, 0, 0, 0, 1, 1, 2] (fun w' => ∃ D : Same NoF w3, w' = D.world) (by kernel_rfl) (by kernel_rfl) InSame.start ?_
    simp only [sel, selE, Nat.reduceEqDiff, reduceIte]
    repeat (go_big_quiet_step (fail))
    refine wpQuiet_nil ?_
    refine wpE_cons (fun N hN => ?_)
    go_wp2_with fail
    obtain ⟨hrd, hlen⟩ := Hr.out
    have hrk : RS (kInt .u8) w3.drew (fun j => F j ∧ j ≠ db ∧ j ≠ mb) A k (f.1.take k) := (hrd.keep (W' := w3.drew) fun j hj _ => H3.out.2.2.1 j hj.2.1).take_ k hcl2
    refine (clone_byte A k cp w3.drew _ (f.1.take k) hrk (by omega)).mono ?_
    rintro e w5 ⟨v, rfl, hM⟩
    obtain ⟨A5, c5, hv5, hc5, hm5⟩ := hM.own.slice
    have htk : (f.1.take k).length = k := by rw [List.length_take, hL.out]; omega
    have hrv5 : RS (kInt .u8) w5 (New w3.drew w5) A5 (f.1.take k).length (f.1.take k) := by
      obtain ⟨A6, c6, h6, -, -, hr6⟩ := hM.own.reads
      rw [hv5] at h6
      injection h6 with h6 _ _
      subst h6
      exact hr6
    rw [htk] at hv5 hc5 hrv5
    subst hv5
    have hb5 : Below w3.heap.size w3 w5 := below_undrew hM.below
    clear hM hrk hrd
    go_wp2
    refine hN _ _ (InSame.of_below hb5) ?_
    clear hN N
    refine wpE_cons (fun N hN => ?_)
    go_wp2
    refine hN _ _ (InSame.of_below hb5) ?_
    clear hN N
    refine wpE_nil ?_
    obtain ⟨hcl3, hk3, hu3, hs3, hsum⟩ := H3.out
    have hs5 := hb5.size
    have ht2 := ht'.out
    obtain ⟨m', clock', hrun5, hfin⟩ := disk_put (W5 := w5) s (f.1.take k, 0) (.agg #[.slice A5 k c5, .int .i64 0]) H.out
      (fun j hj hn => (hb5.block j (by omega)).trans (hu3 j hn))
      ((hb5.block db hs3d).trans (hcl3.trans (by
        have : (t : Int) - (L - k) = (osum flen (oput s (f.1.take k, 0) c) : Nat) := by omega
        rw [this]; rfl)))
      ⟨A5, c5, by rw [htk]; rfl, by rw [htk]; exact hc5, hm5, by
        rw [htk]
        refine hrv5.mono fun j hj => ?_
        have h1 := hj.1
        have h2 := hj.2
        rw [World.size_drew] at h1
        exact ⟨.inr ⟨by omega, h2⟩, by omega, by omega⟩⟩
      ⟨by simp only [htk]; omega, Nat.zero_le _⟩ (hk3.then_below hb5)
    have HF := Lib.hid hfin
    clear hfin hcl3 hk3 hu3 hs3 hsum hs5 ht2 htk
    go_wp2
    go_end0
    exact ⟨rfl, HF.out⟩
  · rw [hl] at hl'; cases hl'
end Go.Proofs.YtfjndjbpgcggkaaDoor
