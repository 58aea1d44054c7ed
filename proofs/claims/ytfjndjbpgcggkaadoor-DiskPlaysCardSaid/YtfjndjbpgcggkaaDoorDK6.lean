/- disk.Cut, Sync, Read, Used, Loose, New: contracts. -/
import Derived.Test.YtfjndjbpgcggkaaDoorDK5
set_option linter.unusedVariables false
set_option linter.unusedSimpArgs false
namespace Go.Proofs.YtfjndjbpgcggkaaDoor
open Go.RowKit
attribute [local go_sem] Same.cell

theorem dfound_ok (s : ByteArray) (c : FObjs) (h : (dfound s c).2 = 0) : look s c = some (dfound s c).1 ∧ validName s = true := by
  unfold dfound at h ⊢
  cases hv : validName s with
  | false => rw [hv] at h; simp at h
  | true =>
    rw [hv] at h
    cases hl : look s c with
    | none => rw [hl] at h; simp at h
    | some f => simp

set_option maxHeartbeats 4000000 in
set_option maxRecDepth 100000 in
theorem dCut_any (db : Nat) (s : ByteArray) (n : Int) (w : World) (F : Foot) (room : Int) (c : FObjs) (h : DiskAt w F db room c) (ok : DOk room c) (hs : s.size ≤ 35184372088832) (hT : TabsBelow w.heap.size w) (hn1 : -9223372036854775808 ≤ n) (hn2 : n ≤ 9223372036854775807) :
    Calls Tryd.prog 21 #[.pointer (some ⟨db, 0, none⟩), .string s, .int .i64 n] w
      (DPost w F db room (if (dfound s c).2 = 0 then oput s ((dfound s c).1.1.take (clampN n (dfound s c).1.1.length), 0) c else c) (dfound s c).2) := by
  have HG := Lib.hid h
  obtain ⟨mb, clock, m, h⟩ := h
  have HFD := Lib.hid (dfound_any db mb clock m s w F room c h hs hT)
  have hok := dfound_ok s c
  have hlt := h.slt
  clear hT h
  obtain ⟨f, hf⟩ : ∃ f, Hid ((dfound s c).1 = f) := ⟨_, rfl⟩
  obtain ⟨e0, he0⟩ : ∃ e, Hid ((dfound s c).2 = e) := ⟨_, rfl⟩
  rw [hf.out, he0.out] at HFD hok
  rw [hf.out, he0.out]
  by_cases e00 : e0 = 0
  · subst e00
    rw [if_pos rfl]
    have Hl := Lib.hid (hok rfl).1
    clear hok
    go_enter Tryd.func21, Tryd.ntmps21
    go_wp2_with fail
    refine HFD.out.mono ?_
    rintro e w1 ⟨A1, cp1, rfl, l1, l2, hrd, h1⟩
    have h2 : Below w.heap.size w (w1.alloc (.cells #[.slice A1 f.1.length cp1, .int .i64 f.2] 99)) := h1.alloc h1.size _
    clear hrd
    have H2 := Lib.hid h2
    clear h1 h2
    go_wp2_with fail
    generalize w1.alloc (.cells #[.slice A1 f.1.length cp1, .int .i64 f.2] 99) = w2 at H2 ⊢
    refine (dcut_any db s n f w2 (fun k => F k ∧ k < w.heap.size) room c (HG.out.bound.below H2.out) ok Hl.out hn1 hn2).mono ?_
    rintro e w3 ⟨rfl, h3, hk3⟩
    have H3 := Lib.hid (And.intro h3 hk3)
    clear h3 hk3
    go_wp2
    go_ret
    have hs2 := H2.out.size
    have hs3 := H3.out.2.size
    refine ⟨rfl, H3.out.1.mono fun k hk => ?_, (Keeps.of_below H2.out F).trans (H3.out.2.mono fun k _ hk => hk.1)⟩
    rcases hk with hk | hk
    · exact .inl hk.1
    · exact .inr ⟨by omega, hk.2⟩
  · rw [if_neg e00]
    have eb : (e0 == 0) = false := by rw [beq_eq_false_iff_ne]; exact e00
    clear hok e00
    go_enter Tryd.func21, Tryd.ntmps21
    go_wp2_with fail
    refine HFD.out.mono ?_
    rintro e w1 ⟨A1, cp1, rfl, l1, l2, hrd, h1⟩
    have h2 : Below w.heap.size w (w1.alloc (.cells #[.slice A1 f.1.length cp1, .int .i64 f.2] 99)) := h1.alloc h1.size _
    have H2 := Lib.hid h2
    clear h1 h2 hrd
    go_wp2
    go_ret
    exact ⟨rfl, HG.out.grow H2.out, Keeps.of_below H2.out _⟩

set_option maxHeartbeats 4000000 in
set_option maxRecDepth 100000 in
theorem dSync_any (db : Nat) (s : ByteArray) (w : World) (F : Foot) (room : Int) (c : FObjs) (h : DiskAt w F db room c) (hs : s.size ≤ 35184372088832) (hT : TabsBelow w.heap.size w) :
    Calls Tryd.prog 17 #[.pointer (some ⟨db, 0, none⟩), .string s] w
      (DPost w F db room (if (dfound s c).2 = 0 then oput s ((dfound s c).1.1, 0) c else c) (dfound s c).2) := by
  have HG := Lib.hid h
  obtain ⟨mb, clock, m, h⟩ := h
  have HFD := Lib.hid (dfound_any db mb clock m s w F room c h hs hT)
  have hok := dfound_ok s c
  have hslt := h.slt
  have H := Lib.hid h
  clear hT h
  obtain ⟨f, hf⟩ : ∃ f, Hid ((dfound s c).1 = f) := ⟨_, rfl⟩
  obtain ⟨e0, he0⟩ : ∃ e, Hid ((dfound s c).2 = e) := ⟨_, rfl⟩
  rw [hf.out, he0.out] at HFD hok
  rw [hf.out, he0.out]
  by_cases e00 : e0 = 0
  · subst e00
    rw [if_pos rfl]
    have Hl := Lib.hid (hok rfl).1
    clear hok
    go_enter Tryd.func17, Tryd.ntmps17
    go_wp2_with fail
    refine HFD.out.mono ?_
    rintro e w1 ⟨A1, cp1, rfl, l1, l2, hrd, h1⟩
    have h2 : Below w.heap.size w (w1.alloc (.cells #[.slice A1 f.1.length cp1, .int .i64 f.2] 99)) := h1.alloc h1.size _
    have hfb : (w1.alloc (.cells #[.slice A1 f.1.length cp1, .int .i64 f.2] 99)).heap[w1.heap.size]? = some (.cells #[.slice A1 f.1.length cp1, .int .i64 f.2] 99 (0, 0)) := heap_alloc_new w1 _
    have hrd2 := hrd.alloc (.cells #[.slice A1 f.1.length cp1, .int .i64 f.2] 99)
    have hq1 := h1.size
    have HH := Lib.hid (And.intro h2 (And.intro hfb hrd2))
    clear h1 h2 hrd hfb hrd2
    go_wp2
    generalize w1.alloc (.cells #[.slice A1 f.1.length cp1, .int .i64 f.2] 99) = w2 at HH ⊢
    generalize w1.heap.size = q at HH hq1 ⊢
    have hqlt : q < w2.heap.size := (Array.getElem?_eq_some_iff.1 HH.out.2.1).1
    have hclw := (HH.out.1.block db hslt).trans H.out.cells
    have d0 : w2.cell? ⟨db, 0, none⟩ = some (.map (some mb)) := cell_of_row w2 db 0 _ _ _ hclw
    have p0 : w2.cell? ⟨q, 0, none⟩ = some (.slice A1 f.1.length cp1) := cell_of_row w2 q 0 _ _ _ HH.out.2.1
    have hdlt : db < w2.heap.size := Nat.lt_of_lt_of_le hslt HH.out.1.size
    clear hclw
    have hNF : ¬ NoF db := id
    have hNFq : ¬ NoF q := id
    refine wp_region_plan [0, 0, 0, 0, 0, 0, 0, 1, 2] (fun w' => ∃ D : Same NoF w2, w' = D.world) (by kernel_rfl) (by kernel_rfl) InSame.start ?_
    simp only [sel, selE, Nat.reduceEqDiff, reduceIte]
    repeat (go_big_quiet_step (fail))
    refine wpQuiet_nil ?_
    refine wpE_cons (fun N hN => ?_)
    go_wp2
    refine hN _ _ InSame.start ?_
    clear hN N
    refine wpE_nil ?_
    obtain ⟨h2, hfb, hrd2⟩ := HH.out
    have hlen := H.out.len _ (look_mem s f c Hl.out)
    have hsum := osum_put (f := flen) s (f.1, 0) c
    have hsz : szAt flen s c = f.1.length := by unfold szAt; rw [Hl.out]; rfl
    have hfl : flen (f.1, 0) = f.1.length := rfl
    obtain ⟨m', clock', hrun5, hfin⟩ := disk_put (w := w) (W5 := w2.drew) s (f.1, 0) (.agg #[.slice A1 f.1.length cp1, .int .i64 0]) H.out
      (fun j hj hn => h2.block j hj)
      ((h2.block db hslt).trans (H.out.cells.trans (by
        have : (osum flen c : Nat) = osum flen (oput s (f.1, 0) c) := by omega
        rw [this])))
      ⟨A1, cp1, rfl, l1, l2, hrd2.drew.mono fun j hj => ⟨.inl ⟨hj.1, hj.2.2.2⟩, hj.2.1, hj.2.2.1⟩⟩
      ⟨hlen.1, Nat.zero_le _⟩ ((Keeps.of_below h2 F).drew)
    have HF := Lib.hid hfin
    clear hfin h2 hfb hrd2 hlen hsum hsz hfl
    go_wp2
    go_ret
    exact ⟨rfl, HF.out⟩
  · rw [if_neg e00]
    have eb : (e0 == 0) = false := by rw [beq_eq_false_iff_ne]; exact e00
    clear hok e00
    go_enter Tryd.func17, Tryd.ntmps17
    go_wp2_with fail
    refine HFD.out.mono ?_
    rintro e w1 ⟨A1, cp1, rfl, l1, l2, hrd, h1⟩
    have h2 : Below w.heap.size w (w1.alloc (.cells #[.slice A1 f.1.length cp1, .int .i64 f.2] 99)) := h1.alloc h1.size _
    have H2 := Lib.hid h2
    clear h1 h2 hrd
    go_wp2
    go_ret
    exact ⟨rfl, HG.out.grow H2.out, Keeps.of_below H2.out _⟩

def DReadPost (w : World) (b : List Int) (err : Int) (en : Ending) (w' : World) : Prop :=
  ∃ (A : Option Addr) (cp : Nat), en = .returned (.tuple #[.slice A b.length cp, .int .i64 err]) ∧ RS (kInt .u8) w' (New w w') A b.length b ∧ Below w.heap.size w w'
set_option maxHeartbeats 4000000 in
set_option maxRecDepth 100000 in
theorem dRead_any (db : Nat) (s : ByteArray) (w : World) (F : Foot) (room : Int) (c : FObjs) (h : DiskAt w F db room c) (ok : DOk room c) (hs : s.size ≤ 35184372088832) (hT : TabsBelow w.heap.size w) :
    Calls Tryd.prog 20 #[.pointer (some ⟨db, 0, none⟩), .string s] w (DReadPost w (dfound s c).1.1 (dfound s c).2) := by
  obtain ⟨mb, clock, m, h⟩ := h
  have HFD := Lib.hid (dfound_any db mb clock m s w F room c h hs hT)
  have hfl := dfound_len s c h.len
  have t1 := ok.t1
  clear hT h
  obtain ⟨f, hf⟩ : ∃ f, Hid ((dfound s c).1 = f) := ⟨_, rfl⟩
  obtain ⟨e0, he0⟩ : ∃ e, Hid ((dfound s c).2 = e) := ⟨_, rfl⟩
  rw [hf.out, he0.out] at HFD
  rw [hf.out] at hfl
  rw [hf.out, he0.out]
  have hfb : f.1.length ≤ 1000000000000 := by omega
  clear hfl t1
  go_enter Tryd.func20, Tryd.ntmps20
  go_wp2_with fail
  refine HFD.out.mono ?_
  rintro e w1 ⟨A1, cp1, rfl, l1, l2, hrd, h1⟩
  have h2 : Below w.heap.size w (w1.alloc (.cells #[.slice A1 f.1.length cp1, .int .i64 f.2] 99)) := h1.alloc h1.size _
  have hrd2 := hrd.alloc (.cells #[.slice A1 f.1.length cp1, .int .i64 f.2] 99)
  have HH := Lib.hid (And.intro h2 hrd2)
  clear h1 h2 hrd hrd2
  go_wp2_with fail
  refine (clone_byte A1 f.1.length cp1 _ _ f.1 HH.out.2 hfb).mono ?_
  rintro e w3 ⟨v, rfl, hM⟩
  obtain ⟨A3, c3, rfl, -, -, hr3⟩ := hM.own.reads
  have HM := Lib.hid (And.intro hM.below hr3)
  clear hM hr3
  go_wp2
  go_ret2
  have hs1 := HH.out.1.size
  exact ⟨A3, c3, rfl, HM.out.2.mono fun k hk => ⟨by have := hk.1; omega, hk.2⟩, HH.out.1.trans (HM.out.1.mono hs1)⟩

theorem dUsed_any (db : Nat) (w : World) (F : Foot) (room : Int) (c : FObjs) (h : DiskAt w F db room c) :
    Calls Tryd.prog 16 #[.pointer (some ⟨db, 0, none⟩)] w fun e w' => e = .returned (.int .i64 (osum flen c : Nat)) ∧ w = w' := by
  obtain ⟨mb, clock, m, h⟩ := h
  have c2 : w.cell? ⟨db, 2, none⟩ = some (.int .i64 (osum flen c : Nat)) := cell_of_row w db 2 _ _ _ h.cells
  clear h
  go_enter Tryd.func16, Tryd.ntmps16
  go_wp2
  go_ret
  exact ⟨rfl, rfl⟩
def looseOf (s : ByteArray) (c : FObjs) : Nat := match look s c with | some f => f.2 | none => 0
theorem dLoose_any (db : Nat) (s : ByteArray) (w : World) (F : Foot) (room : Int) (c : FObjs) (h : DiskAt w F db room c) :
    Calls Tryd.prog 18 #[.pointer (some ⟨db, 0, none⟩), .string s] w fun e w' => e = .returned (.int .i64 (looseOf s c : Nat)) ∧ w = w' := by
  obtain ⟨mb, clock, m, h⟩ := h
  have c0 : w.cell? ⟨db, 0, none⟩ = some (.map (some mb)) := cell_of_row w db 0 _ _ _ h.cells
  have hf1 := field1
  rcases look_map (mb := mb) (clock := clock) mDisk s h.e with ⟨f, v, hl, ⟨A, cp, rfl, l1, l2, hrd⟩, hr⟩ | ⟨hl, hr⟩
  · have hr0 := (hr w h.map).1
    have hL : looseOf s c = f.2 := by unfold looseOf; rw [hl]
    rw [hL]
    clear hr hrd hl hL h
    go_enter Tryd.func18, Tryd.ntmps18
    go_wp2
    go_ret
    exact ⟨rfl, rfl⟩
  · have hr0 := (hr w h.map).1
    have hL : looseOf s c = 0 := by unfold looseOf; rw [hl]
    rw [hL]
    clear hr hl hL h
    go_enter Tryd.func18, Tryd.ntmps18
    go_wp2
    go_ret
    exact ⟨rfl, rfl⟩

set_option maxHeartbeats 2000000 in
theorem DNew_any (room : Int) (w : World) (h0 : -9223372036854775808 ≤ room) (h1 : room ≤ 9223372036854775807) :
    Calls Tryd.prog 13 #[.int .i64 room] w fun e w' => ∃ db, e = .returned (.pointer (some ⟨db, 0, none⟩)) ∧ DiskAt w' (New w w') db (max 0 room) [] ∧ Below w.heap.size w w' := by
  have hmm := @run_makeMap Tryd.prog
  go_enter Tryd.func13, Tryd.ntmps13
  go_wp2
  go_ret
  refine ⟨w.heap.size + 1, rfl, ⟨w.heap.size, 0, [], ⟨?_, ?_, ⟨by omega, by simp⟩, ⟨by omega, by simp; omega⟩, trivial, by simp, ⟨by simp, by simp⟩, by simp⟩⟩, ((Below.refl _ _).alloc (Nat.le_refl _) _).alloc (by simp) _⟩
  · have := heap_alloc_new (w.alloc (.map #[] 0)) (.cells #[.map (some w.heap.size), .int .i64 (max 0 room), .int .i64 0] 97)
    rw [World.size_alloc] at this
    exact this
  · exact (Below.heap_alloc _ _ _ (by simp)).trans (heap_alloc_new w _)
end Go.Proofs.YtfjndjbpgcggkaaDoor
