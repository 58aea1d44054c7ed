/- disk.Rename, Remove: walked. -/
import Derived.Test.YtfjndjbpgcggkaaDoorDK10
set_option linter.unusedVariables false
set_option linter.unusedSimpArgs false
namespace Go.Proofs.YtfjndjbpgcggkaaDoor
open Go.RowKit
attribute [local go_sem] Same.cell

/-- A disk in memory, whatever it tells of how much it holds. -/
structure DiskU (W : World) (F : Foot) (db mb clock : Nat) (m : Ents) (room u : Int) (c : FObjs) : Prop where
  cells : W.heap[db]? = some (.cells #[.map (some mb), .int .i64 room, .int .i64 u] 97 (0, 0))
  map : W.heap[mb]? = some (.map (ents m).toArray clock)
  fs : F db
  fm : F mb
  ne : db ≠ mb
  e : EntsR kFile W (fun k => F k ∧ k ≠ db ∧ k ≠ mb) m c
  len : ∀ y ∈ c, y.2.1.length ≤ 1000000000000 ∧ y.2.2 ≤ y.2.1.length
  wf : EWf m clock
  nd : (c.map (·.1)).Nodup
section
variable {W W' w : World} {F G : Foot} {db mb clock : Nat} {m : Ents} {room u : Int} {c : FObjs}
theorem DiskU.disk (h : DiskU W F db mb clock m room (osum flen c : Nat) c) : DiskAt W F db room c := ⟨mb, clock, m, ⟨h.cells, h.map, h.fs, h.fm, h.e, h.len, h.wf, h.nd⟩⟩
theorem DiskIn.toU (h : DiskIn w F db mb clock m room c) (hk : ∀ k, k < w.heap.size → k ≠ db → W.heap[k]? = w.heap[k]?) (hcl : W.heap[db]? = some (.cells #[.map (some mb), .int .i64 room, .int .i64 u] 97 (0, 0))) :
    DiskU W F db mb clock m room u c :=
  ⟨hcl, (hk mb h.mlt (Ne.symm h.ne)).trans h.map, h.fs, h.fm, h.ne, h.e.keep fun k hf hl => hk k hl hf.2.1, h.len, h.wf, h.nd⟩
theorem DiskU.mono (h : DiskU W F db mb clock m room u c) (hG : ∀ k, F k → G k) : DiskU W G db mb clock m room u c :=
  ⟨h.cells, h.map, hG _ h.fs, hG _ h.fm, h.ne, h.e.mono fun k hk => ⟨hG k hk.1, hk.2⟩, h.len, h.wf, h.nd⟩
theorem DiskU.mlt (h : DiskU W F db mb clock m room u c) : mb < W.heap.size := (Array.getElem?_eq_some_iff.1 h.map).1
theorem DiskU.put (h : DiskU W F db mb clock m room u c) (s : ByteArray) (x : List Int × Nat) (v : Value) (hv : repFile W (fun k => F k ∧ k ≠ db ∧ k ≠ mb) x v) (hx : x.1.length ≤ 1000000000000 ∧ x.2 ≤ x.1.length) :
    ∃ m' clock', (Instr.mapUpdate 95 (.map (some mb)) (.string s) v).run Tryd.prog W = .ok () (World.setMap W mb m' clock') ∧ DiskU (World.setMap W mb m' clock') F db mb clock' m' room u (oput s x c) := by
  obtain ⟨m', clock', hwf', hput, hents⟩ := put_map (mb := mb) (clock := clock) mDisk s v h.e h.wf
  have hkk : ∀ k, k ≠ mb → (World.setMap W mb m' clock').heap[k]? = W.heap[k]? := fun k h2 => setMap_other _ _ _ _ _ h2
  refine ⟨m', clock', hput W h.map, ⟨(hkk db h.ne).trans h.cells, setMap_same _ _ _ _ h.mlt, h.fs, h.fm, h.ne, ?_, ?_, hwf', nodup_oput s x c h.nd⟩⟩
  · exact hents _ _ x (h.e.keep fun k hk _ => hkk k hk.2.2) (kFile.keep (W' := World.setMap W mb m' clock') hv fun k hk _ => hkk k hk.2.2)
  · intro y hy
    rcases mem_oput s x c y hy with h' | h'
    · exact h.len y h'
    · rw [h']; exact hx
theorem DiskU.del (h : DiskU W F db mb clock m room u c) (s : ByteArray) (hl : look s c ≠ none) :
    (∀ ty, (Builtin.delete_ #[95, 9] ty #[.map (some mb), .string s]).run Tryd.prog W = .ok (.tuple #[]) (World.setMap W mb (mdel s m) clock)) ∧ DiskU (World.setMap W mb (mdel s m) clock) F db mb clock (mdel s m) room u (odel s c) := by
  have hkk : ∀ k, k ≠ mb → (World.setMap W mb (mdel s m) clock).heap[k]? = W.heap[k]? := fun k h2 => setMap_other _ _ _ _ _ h2
  refine ⟨fun ty => del_map (mb := mb) (clock := clock) mDisk s h.e hl W ty h.map, ⟨(hkk db h.ne).trans h.cells, setMap_same _ _ _ _ h.mlt, h.fs, h.fm, h.ne, ?_, ?_, h.wf.mdel s, nodup_odel s c h.nd⟩⟩
  · exact EntsR.del s (h.e.keep fun k hk _ => hkk k hk.2.2)
  · exact fun y hy => h.len y (mem_odel s c y hy)
end

theorem dfound_none (s : ByteArray) (c : FObjs) (h : (dfound s c).2 ≠ 0) : (dfound s c).1 = ([], 0) := by
  unfold dfound at h ⊢
  split
  · rfl
  · rename_i hv
    rw [if_neg hv] at h
    cases hl : look s c with
    | none => rfl
    | some f => rw [hl] at h; exact absurd rfl h

/-- What Remove leaves. -/
def dremC (s : ByteArray) (c : FObjs) : FObjs := if (dfound s c).2 = 0 then odel s c else c
set_option maxHeartbeats 4000000 in
set_option maxRecDepth 100000 in
theorem dRemove_any (db : Nat) (s : ByteArray) (w : World) (F : Foot) (room : Int) (c : FObjs) (h : DiskAt w F db room c) (ok : DOk room c) (hs : s.size ≤ 35184372088832) (hT : TabsBelow w.heap.size w) :
    Calls Tryd.prog 35 #[.pointer (some ⟨db, 0, none⟩), .string s] w (DPost w F db room (dremC s c) (dfound s c).2) := by
  have HG := Lib.hid h
  obtain ⟨mb, clock, m, h⟩ := h
  have HFD := Lib.hid (dfound_any db mb clock m s w F room c h hs hT)
  have hok := dfound_ok s c
  have hslt := h.slt
  have H := Lib.hid h
  have t1 := ok.t1
  clear hT h
  unfold dremC
  obtain ⟨f, hf⟩ : ∃ f, Hid ((dfound s c).1 = f) := ⟨_, rfl⟩
  obtain ⟨e0, he0⟩ : ∃ e, Hid ((dfound s c).2 = e) := ⟨_, rfl⟩
  rw [hf.out, he0.out] at HFD hok
  rw [he0.out]
  obtain ⟨t, ht⟩ : ∃ t, Hid (osum flen c = t) := ⟨_, rfl⟩
  rw [ht.out] at t1
  by_cases e00 : e0 = 0
  · subst e00
    rw [if_pos rfl]
    have Hl := Lib.hid (hok rfl).1
    clear hok
    have hdsum := osum_del (f := flen) s f c Hl.out
    obtain ⟨t', ht'⟩ : ∃ t, Hid (osum flen (odel s c) = t) := ⟨_, rfl⟩
    rw [ht.out, ht'.out, show flen f = f.1.length from rfl] at hdsum
    have Hsum := Lib.hid hdsum
    have hfl : f.1.length ≤ t := by omega
    have hcw := H.out.cells
    rw [ht.out] at hcw
    have Hcw := Lib.hid hcw
    clear hdsum hcw
    go_enter Tryd.func35, Tryd.ntmps35
    go_wp2_with fail
    refine HFD.out.mono ?_
    rintro e w1 ⟨A1, cp1, rfl, l1, l2, hrd, h1⟩
    have h2 : Below w.heap.size w (w1.alloc (.cells #[.slice A1 f.1.length cp1, .int .i64 f.2] 99)) := h1.alloc h1.size _
    have hfb : (w1.alloc (.cells #[.slice A1 f.1.length cp1, .int .i64 f.2] 99)).heap[w1.heap.size]? = some (.cells #[.slice A1 f.1.length cp1, .int .i64 f.2] 99 (0, 0)) := heap_alloc_new w1 _
    have hq1 := h1.size
    have HH := Lib.hid (And.intro h2 hfb)
    clear h1 h2 hrd hfb
    go_wp2_with fail
    generalize w1.alloc (.cells #[.slice A1 f.1.length cp1, .int .i64 f.2] 99) = w2 at HH ⊢
    generalize w1.heap.size = q at HH hq1 ⊢
    have hqlt : q < w2.heap.size := (Array.getElem?_eq_some_iff.1 HH.out.2).1
    have hclw := (HH.out.1.block db hslt).trans Hcw.out
    have c2 : w2.cell? ⟨db, 2, none⟩ = some (.int .i64 t) := cell_of_row w2 db 2 _ _ _ hclw
    have g2 : w2.frozen? ⟨db, 2, none⟩ = false := frozen_of_row w2 db 2 _ _ hclw
    have p0 : w2.cell? ⟨q, 0, none⟩ = some (.slice A1 f.1.length cp1) := cell_of_row w2 q 0 _ _ _ HH.out.2
    have hdlt : db < w2.heap.size := Nat.lt_of_lt_of_le hslt HH.out.1.size
    have hNF : ¬ NoF db := id
    have hNFq : ¬ NoF q := id
    have hcl3 : (w2.setCell ⟨db, 2, none⟩ (.int .i64 ((t : Int) - f.1.length))).drew.heap[db]? = some (.cells #[.map (some mb), .int .i64 room, .int .i64 ((t : Int) - f.1.length)] 97 (0, 0)) := heap_setCell_same w2 db 2 _ _ (.int .i64 ((t : Int) - f.1.length)) hclw
    have hu3 : ∀ j, j < w.heap.size → j ≠ db → (w2.setCell ⟨db, 2, none⟩ (.int .i64 ((t : Int) - f.1.length))).drew.heap[j]? = w.heap[j]? := fun j hj hn => (Below.heap_setCell w2 ⟨db, 2, none⟩ (.int .i64 ((t : Int) - f.1.length)) j hn).trans (HH.out.1.block j hj)
    have hk3 : Keeps F w (w2.setCell ⟨db, 2, none⟩ (.int .i64 ((t : Int) - f.1.length))).drew := ((Keeps.of_below HH.out.1 F).setCell (p := ⟨db, 2, none⟩) (fun _ => H.out.fs) _).drew
    have e0 : (w2.setCell ⟨db, 2, none⟩ (.int .i64 ((t : Int) - f.1.length))).drew.cell? ⟨db, 0, none⟩ = some (.map (some mb)) := cell_of_row _ db 0 _ _ _ hcl3
    have hU := (H.out.toU (W := (w2.setCell ⟨db, 2, none⟩ (.int .i64 ((t : Int) - f.1.length))).drew) hu3 hcl3).del s (by rw [Hl.out]; exact fun h => by cases h)
    have hdel := hU.1
    have HF := Lib.hid (And.intro hU.2 hk3)
    clear hclw hcl3 hu3 hk3 hU
    refine wp_region_plan [0, 0, 0, 0, 0, 0, 0, 0, 2, 2, 2] (fun w' => ∃ D : Same NoF w2, w' = D.world) (by kernel_rfl) (by kernel_rfl) InSame.start ?_
    simp only [sel, selE, Nat.reduceEqDiff, reduceIte]
    repeat (go_big_quiet_step (fail))
    refine wpQuiet_nil ?_
    refine wpE_nil ?_
    go_wp2_with fail
    go_ret
    obtain ⟨hU, hk3⟩ := HF.out
    have hte : ((t : Int) - f.1.length) = (osum flen (odel s c) : Nat) := by rw [ht'.out]; have := Hsum.out; omega
    have hU2 : DiskU (World.setMap (w2.setCell ⟨db, 2, none⟩ (.int .i64 ((t : Int) - f.1.length))).drew mb (mdel s m) clock) F db mb clock (mdel s m) room (osum flen (odel s c) : Nat) (odel s c) := by rw [← hte]; exact hU
    exact ⟨rfl, hU2.disk.mono fun k hk => .inl hk, hk3.setMap (fun _ => H.out.fm) _ _⟩
  · rw [if_neg e00]
    have eb : (e0 == 0) = false := by rw [beq_eq_false_iff_ne]; exact e00
    clear hok e00
    go_enter Tryd.func35, Tryd.ntmps35
    go_wp2_with fail
    refine HFD.out.mono ?_
    rintro e w1 ⟨A1, cp1, rfl, l1, l2, hrd, h1⟩
    have h2 : Below w.heap.size w (w1.alloc (.cells #[.slice A1 f.1.length cp1, .int .i64 f.2] 99)) := h1.alloc h1.size _
    have H2 := Lib.hid h2
    clear h1 h2 hrd
    go_wp2
    go_ret
    exact ⟨rfl, HG.out.grow H2.out, Keeps.of_below H2.out _⟩
end Go.Proofs.YtfjndjbpgcggkaaDoor
