/- A disk in memory; what disk.found tells. -/
import Derived.Test.YtfjndjbpgcggkaaDoorDK2
import Derived.Test.YtfjndjbpgcggkaaDoorMG1
import Derived.Test.YtfjndjbpgcggkaaDoorDN4
import Derived.Test.YtfjndjbpgcggkaaDoorR
set_option linter.unusedVariables false
set_option linter.unusedSimpArgs false
namespace Go.Proofs.YtfjndjbpgcggkaaDoor
open Go.RowKit
attribute [local go_sem] Same.cell

/-- A file: its bytes, and how many of them are loose. -/
abbrev FObjs := Objs (List Int × Nat)
def flen (x : List Int × Nat) : Nat := x.1.length
def repFile (W : World) (F : Foot) (x : List Int × Nat) (v : Value) : Prop :=
  ∃ (A : Option Addr) (cp : Nat), v = .agg #[.slice A x.1.length cp, .int .i64 x.2] ∧ x.1.length ≤ cp ∧ cp ≤ 9223372036854775807 ∧ RS (kInt .u8) W F A x.1.length x.1
def kFile : VKind (List Int × Nat) where
  rep := repFile
  mono := by rintro W F G x v ⟨A, cp, rfl, h1, h2, h3⟩ hG; exact ⟨A, cp, rfl, h1, h2, h3.mono hG⟩
  keep := by rintro W W' F x v ⟨A, cp, rfl, h1, h2, h3⟩ hk; exact ⟨A, cp, rfl, h1, h2, h3.keep hk⟩
  bound := by rintro W F x v ⟨A, cp, rfl, h1, h2, h3⟩; exact ⟨A, cp, rfl, h1, h2, h3.bound⟩
theorem mDisk : MapT Tryd.prog 95 9 99 (.agg #[.slice none 0 0, .int .i64 0]) := ⟨Tryd.underlying95, Tryd.underlying9, fun w => by kernel_rfl⟩

structure DiskIn (W : World) (F : Foot) (db mb clock : Nat) (m : Ents) (room : Int) (c : FObjs) : Prop where
  cells : W.heap[db]? = some (.cells #[.map (some mb), .int .i64 room, .int .i64 (osum flen c)] 97 (0, 0))
  map : W.heap[mb]? = some (.map (ents m).toArray clock)
  fs : F db
  fm : F mb
  e : EntsR kFile W (fun k => F k ∧ k ≠ db ∧ k ≠ mb) m c
  len : ∀ y ∈ c, y.2.1.length ≤ 1000000000000 ∧ y.2.2 ≤ y.2.1.length
  wf : EWf m clock
  nd : (c.map (·.1)).Nodup
def DiskAt (W : World) (F : Foot) (db : Nat) (room : Int) (c : FObjs) : Prop := ∃ mb clock m, DiskIn W F db mb clock m room c
section
variable {W W' : World} {F G : Foot} {db mb clock : Nat} {m : Ents} {room : Int} {c : FObjs}
theorem DiskIn.slt (h : DiskIn W F db mb clock m room c) : db < W.heap.size := (Array.getElem?_eq_some_iff.1 h.cells).1
theorem DiskIn.mlt (h : DiskIn W F db mb clock m room c) : mb < W.heap.size := (Array.getElem?_eq_some_iff.1 h.map).1
theorem DiskIn.ne (h : DiskIn W F db mb clock m room c) : db ≠ mb := by
  rintro rfl
  have := h.cells.symm.trans h.map
  cases this
theorem DiskIn.keep (h : DiskIn W F db mb clock m room c) (hk : ∀ k, F k → k < W.heap.size → W'.heap[k]? = W.heap[k]?) : DiskIn W' F db mb clock m room c :=
  ⟨(hk db h.fs h.slt).trans h.cells, (hk mb h.fm h.mlt).trans h.map, h.fs, h.fm, h.e.keep fun k hf hl => hk k hf.1 hl, h.len, h.wf, h.nd⟩
theorem DiskIn.mono (h : DiskIn W F db mb clock m room c) (hG : ∀ k, F k → G k) : DiskIn W G db mb clock m room c :=
  ⟨h.cells, h.map, hG _ h.fs, hG _ h.fm, h.e.mono fun k hk => ⟨hG k hk.1, hk.2⟩, h.len, h.wf, h.nd⟩
theorem DiskIn.bound (h : DiskIn W F db mb clock m room c) : DiskIn W (fun k => F k ∧ k < W.heap.size) db mb clock m room c :=
  ⟨h.cells, h.map, ⟨h.fs, h.slt⟩, ⟨h.fm, h.mlt⟩, h.e.bound.mono fun k hk => ⟨⟨hk.1.1, hk.2⟩, hk.1.2⟩, h.len, h.wf, h.nd⟩
theorem DiskAt.lt (h : DiskAt W F db room c) : db < W.heap.size := by obtain ⟨_, _, _, h⟩ := h; exact h.slt
theorem DiskAt.keep (h : DiskAt W F db room c) (hk : ∀ k, F k → k < W.heap.size → W'.heap[k]? = W.heap[k]?) : DiskAt W' F db room c := by
  obtain ⟨_, _, _, h⟩ := h; exact ⟨_, _, _, h.keep hk⟩
theorem DiskAt.keeps {S : Foot} (h : DiskAt W F db room c) (hk : Keeps S W W') (ha : Apart F S) : DiskAt W' F db room c := h.keep fun k hf hlt => hk.block k hlt (ha k hf)
theorem DiskAt.below (h : DiskAt W F db room c) (hk : Below W.heap.size W W') : DiskAt W' F db room c := h.keep fun k _ hlt => hk.block k hlt
theorem DiskAt.mono (h : DiskAt W F db room c) (hG : ∀ k, F k → G k) : DiskAt W G db room c := by
  obtain ⟨_, _, _, h⟩ := h; exact ⟨_, _, _, h.mono hG⟩
theorem DiskAt.bound (h : DiskAt W F db room c) : DiskAt W (fun k => F k ∧ k < W.heap.size) db room c := by
  obtain ⟨_, _, _, h⟩ := h; exact ⟨_, _, _, h.bound⟩
theorem DiskAt.grow (h : DiskAt W F db room c) (hk : Below W.heap.size W W') : DiskAt W' (Grow F W W') db room c := (h.below hk).mono fun _ hk => .inl hk
end

/-- What found tells. -/
def dfound (s : ByteArray) (c : FObjs) : (List Int × Nat) × Int := if validName s = false then (([], 0), 6) else match look s c with | some f => (f, 0) | none => (([], 0), 8)
def DFoundPost (w : World) (F : Foot) (db mb : Nat) (f : List Int × Nat) (e : Int) (en : Ending) (w' : World) : Prop :=
  ∃ (A : Option Addr) (cp : Nat), en = .returned (.tuple #[.agg #[.slice A f.1.length cp, .int .i64 f.2], .int .i64 e]) ∧ f.1.length ≤ cp ∧ cp ≤ 9223372036854775807 ∧ RS (kInt .u8) w' (fun k => F k ∧ k ≠ db ∧ k ≠ mb ∧ k < w.heap.size) A f.1.length f.1 ∧ Below w.heap.size w w'

set_option maxHeartbeats 2000000 in
set_option maxRecDepth 100000 in
theorem dfound_any (db mb clock : Nat) (m : Ents) (s : ByteArray) (w : World) (F : Foot) (room : Int) (c : FObjs) (h : DiskIn w F db mb clock m room c) (hs : s.size ≤ 35184372088832) (hT : TabsBelow w.heap.size w) :
    Calls Tryd.prog 52 #[.pointer (some ⟨db, 0, none⟩), .string s] w (DFoundPost w F db mb (dfound s c).1 (dfound s c).2) := by
  have hTB : ∀ o, TabsBelow (w.alloc o).heap.size (w.alloc o) := fun o w' hb => hT w' ((((Below.refl w.heap.size w).alloc (Nat.le_refl _) o)).trans (hb.mono (by simp)))
  have HV := Lib.hid (fun w1 => Valid_any s w1 hs)
  have HT := Lib.hid hTB
  clear hT hTB
  cases hv : validName s with
  | false =>
    have hf : dfound s c = (([], 0), 6) := by unfold dfound; rw [if_pos hv]
    rw [hf]
    rw [hv] at HV
    clear hv hf h
    go_enter Tryd.func52, Tryd.ntmps52
    go_wp2_with fail
    refine (HV.out _ (HT.out _)).mono ?_
    rintro e w1 ⟨rfl, h1⟩
    have hal : Below w.heap.size w (w.alloc (.cells #[.slice none 0 0, .int .i64 0] 99)) := (Below.refl _ _).alloc (Nat.le_refl _) _
    have hb1 : Below w.heap.size w w1 := hal.trans (h1.mono (by simp))
    have hq : w1.heap[w.heap.size]? = some (.cells #[.slice none 0 0, .int .i64 0] 99 (0, 0)) := (h1.block _ (by simp)).trans (heap_alloc_new w _)
    have z0 : w1.cell? ⟨w.heap.size, 0, none⟩ = some (.slice none 0 0) := cell_of_row w1 _ 0 _ _ _ hq
    have z1 : w1.cell? ⟨w.heap.size, 1, none⟩ = some (.int .i64 0) := cell_of_row w1 _ 1 _ _ _ hq
    have f0 : w1.frozen? ⟨w.heap.size, 0, none⟩ = false := frozen_of_row w1 _ 0 _ _ hq
    have f1 : w1.frozen? ⟨w.heap.size, 1, none⟩ = false := frozen_of_row w1 _ 1 _ _ hq
    have HB := Lib.hid hb1
    clear hq hb1 h1 hal
    go_wp2
    refine bodyPost_ret (v := .tuple #[.agg #[.slice none 0 0, .int .i64 0], .int .i64 6]) (by simp [results, Tryd.results52, go_sem, z0, z1]) rfl ?_
    exact ⟨none, 0, rfl, by simp, by omega, RS.nil, (HB.out.setCell (p := ⟨w.heap.size, 0, none⟩) (Nat.le_refl _) _).setCell (p := ⟨w.heap.size, 1, none⟩) (Nat.le_refl _) _⟩
  | true =>
    rw [hv] at HV
    have hf : dfound s c = match look s c with | some f => (f, 0) | none => (([], 0), 8) := by unfold dfound; rw [if_neg (by rw [hv]; decide)]
    rw [hf]
    clear hv hf
    have hslt := h.slt
    have hmlt := h.mlt
    have c0 : w.cell? ⟨db, 0, none⟩ = some (.map (some mb)) := cell_of_row w db 0 _ _ _ h.cells
    have Hm := Lib.hid h.map
    have Hlen := Lib.hid h.len
    rcases look_map (mb := mb) (clock := clock) mDisk s h.e with ⟨f, v, hl, ⟨A, cp, rfl, l1, l2, hrd⟩, hr⟩ | ⟨hl, hr⟩
    · rw [hl]
      have Hl := Lib.hid hl
      have HR := Lib.hid hr
      clear hr hl h
      go_enter Tryd.func52, Tryd.ntmps52
      go_wp2_with fail
      refine (HV.out _ (HT.out _)).mono ?_
      rintro e w1 ⟨rfl, h1⟩
      have hal : Below w.heap.size w (w.alloc (.cells #[.slice none 0 0, .int .i64 0] 99)) := (Below.refl _ _).alloc (Nat.le_refl _) _
      have hb1 : Below w.heap.size w w1 := hal.trans (h1.mono (by simp))
      have hq : w1.heap[w.heap.size]? = some (.cells #[.slice none 0 0, .int .i64 0] 99 (0, 0)) := (h1.block _ (by simp)).trans (heap_alloc_new w _)
      have z0 : w1.cell? ⟨w.heap.size, 0, none⟩ = some (.slice none 0 0) := cell_of_row w1 _ 0 _ _ _ hq
      have z1 : w1.cell? ⟨w.heap.size, 1, none⟩ = some (.int .i64 0) := cell_of_row w1 _ 1 _ _ _ hq
      have f0 : w1.frozen? ⟨w.heap.size, 0, none⟩ = false := frozen_of_row w1 _ 0 _ _ hq
      have f1 : w1.frozen? ⟨w.heap.size, 1, none⟩ = false := frozen_of_row w1 _ 1 _ _ hq
      have hqlt : w.heap.size < w1.heap.size := (Array.getElem?_eq_some_iff.1 hq).1
      have c1 : w1.cell? ⟨db, 0, none⟩ = some (.map (some mb)) := (hb1.cell (p := ⟨db, 0, none⟩) hslt).trans c0
      have hr1 := (HR.out w1 ((hb1.block mb hmlt).trans Hm.out)).2
      have hrd1 : RS (kInt .u8) w1 (fun k => (F k ∧ k ≠ db ∧ k ≠ mb) ∧ k < w.heap.size) A f.1.length f.1 := hrd.bound.below hb1
      have HB := Lib.hid (And.intro hb1 hrd1)
      clear hq hb1 h1 hal hrd1 hrd
      go_wp2
      refine bodyPost_ret (v := .tuple #[.agg #[.slice A f.1.length cp, .int .i64 f.2], .int .i64 0]) (by simp [results, Tryd.results52, go_sem, z0, z1, hqlt]) rfl ?_
      obtain ⟨hb1, hrd1⟩ := HB.out
      have hbe : Below w.heap.size w (((w1.setCell ⟨w.heap.size, 0, none⟩ (.slice A f.1.length cp)).setCell ⟨w.heap.size, 1, none⟩ (.int .i64 f.2)).alloc (.cells #[.slice A f.1.length cp, .int .i64 f.2] 99)) :=
        ((hb1.setCell (p := ⟨w.heap.size, 0, none⟩) (Nat.le_refl _) _).setCell (p := ⟨w.heap.size, 1, none⟩) (Nat.le_refl _) _).alloc (by simp; omega) _
      refine ⟨A, cp, rfl, l1, l2, ?_, hbe⟩
      exact (((hrd1.far (p := ⟨w.heap.size, 0, none⟩) (fun hk => Nat.lt_irrefl _ hk.2) _).far (p := ⟨w.heap.size, 1, none⟩) (fun hk => Nat.lt_irrefl _ hk.2) _).alloc _).mono fun k hk => ⟨hk.1.1, hk.1.2.1, hk.1.2.2, hk.2⟩
    · rw [hl]
      have HR := Lib.hid hr
      clear hr hl h
      go_enter Tryd.func52, Tryd.ntmps52
      go_wp2_with fail
      refine (HV.out _ (HT.out _)).mono ?_
      rintro e w1 ⟨rfl, h1⟩
      have hal : Below w.heap.size w (w.alloc (.cells #[.slice none 0 0, .int .i64 0] 99)) := (Below.refl _ _).alloc (Nat.le_refl _) _
      have hb1 : Below w.heap.size w w1 := hal.trans (h1.mono (by simp))
      have hq : w1.heap[w.heap.size]? = some (.cells #[.slice none 0 0, .int .i64 0] 99 (0, 0)) := (h1.block _ (by simp)).trans (heap_alloc_new w _)
      have z0 : w1.cell? ⟨w.heap.size, 0, none⟩ = some (.slice none 0 0) := cell_of_row w1 _ 0 _ _ _ hq
      have z1 : w1.cell? ⟨w.heap.size, 1, none⟩ = some (.int .i64 0) := cell_of_row w1 _ 1 _ _ _ hq
      have f0 : w1.frozen? ⟨w.heap.size, 0, none⟩ = false := frozen_of_row w1 _ 0 _ _ hq
      have f1 : w1.frozen? ⟨w.heap.size, 1, none⟩ = false := frozen_of_row w1 _ 1 _ _ hq
      have hqlt : w.heap.size < w1.heap.size := (Array.getElem?_eq_some_iff.1 hq).1
      have c1 : w1.cell? ⟨db, 0, none⟩ = some (.map (some mb)) := (hb1.cell (p := ⟨db, 0, none⟩) hslt).trans c0
      have hr1 := (HR.out w1 ((hb1.block mb hmlt).trans Hm.out)).2
      have HB := Lib.hid hb1
      clear hq hb1 h1 hal
      go_wp2
      refine bodyPost_ret (v := .tuple #[.agg #[.slice none 0 0, .int .i64 0], .int .i64 8]) (by simp [results, Tryd.results52, go_sem, z0, z1, hqlt]) rfl ?_
      exact ⟨none, 0, rfl, by simp, by omega, RS.nil, ((HB.out.setCell (p := ⟨w.heap.size, 0, none⟩) (Nat.le_refl _) _).setCell (p := ⟨w.heap.size, 1, none⟩) (Nat.le_refl _) _).alloc (by simp; omega) _⟩
end Go.Proofs.YtfjndjbpgcggkaaDoor
