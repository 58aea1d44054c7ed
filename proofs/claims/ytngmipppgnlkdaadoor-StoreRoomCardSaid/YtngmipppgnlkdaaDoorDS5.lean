/- store.drop, walked. -/
import Derived.Test.YtngmipppgnlkdaaDoorDS4
set_option linter.unusedVariables false
set_option linter.unusedSimpArgs false
namespace Go.Proofs.YtngmipppgnlkdaaDoor
open Go.RowKit

theorem del_map {W : World} {F : Foot} {mb clock : Nat} {m : Ents} {c : Objs} (s : ByteArray) (he : EntsR W F m c) (hl : look s c ≠ none) :
    ∀ (w1 : World) (T : TypeId), w1.heap[mb]? = some (.map (ents m).toArray clock) → (Builtin.delete_ #[64, 9] T #[.map (some mb), .string s]).run Tryd.prog w1 = .ok (.tuple #[]) (World.setMap w1 mb (mdel s m) clock) := by
  have hlk := EntsR.look s 0 he
  cases hm : mfind s m 0 with
  | none =>
    rw [hm] at hlk
    cases h : look s c with
    | none => exact absurd h hl
    | some b => rw [h] at hlk; exact hlk.elim
  | some x => exact fun w1 T h1 => run_del w1 mb clock m s T x h1 hm

def dropC (s : ByteArray) (c : Objs) : Objs := if (found s c).2 = 0 then odel s c else c

set_option maxHeartbeats 2000000 in
set_option maxRecDepth 100000 in
theorem drop_any (sb : Nat) (s : ByteArray) (w : World) (F : Foot) (room : Int) (bad : List Int) (c : Objs) (h : StoreAt w F sb room bad c) (ok : StOk room c) (hs : s.size ≤ 35184372088832) (hT : TabsBelow w.heap.size w) :
    Calls Tryd.prog 33 #[.pointer (some ⟨sb, 0, none⟩), .string s] w (PutPost w F sb room bad (dropC s c) (found s c).2) := by
  have HFD := Lib.hid (found_any sb s w F room bad c h hs hT)
  have HG := Lib.hid h
  clear hT
  obtain ⟨mb, clock, m, fv, h⟩ := h
  have hslt := h.slt
  have hmlt := h.mlt
  obtain ⟨r0, r1, t1⟩ := ok
  obtain ⟨e, he⟩ : ∃ e, Hid ((found s c).2 = e) := ⟨_, rfl⟩
  obtain ⟨b, hb⟩ : ∃ b, Hid ((found s c).1 = b) := ⟨_, rfl⟩
  have hd : Hid (dropC s c = if e = 0 then odel s c else c) := by show dropC s c = _; unfold dropC; rw [he.out]
  rw [hd.out, he.out]
  rw [hb.out, he.out] at HFD
  by_cases e0 : e = 0
  · subst e0
    have hlk : Hid (look s c = some b) := by
      show look s c = some b
      have h1 := he.out
      have h2 := hb.out
      unfold found at h1 h2
      split at h1
      · cases h1
      · rename_i hv
        rw [if_neg hv] at h2
        cases hl : look s c with
        | none => rw [hl] at h1; cases h1
        | some b' => rw [hl] at h2; exact congrArg some h2
    obtain ⟨t, ht⟩ : ∃ t, Hid (tot c = t) := ⟨_, rfl⟩
    have hto := tot_del s b c hlk.out
    rw [ht.out] at hto t1
    obtain ⟨t', ht'⟩ : ∃ t, Hid (tot (odel s c) = t) := ⟨_, rfl⟩
    rw [ht'.out] at hto
    have hlt : b.length ≤ t := by omega
    have Hto := Lib.hid hto
    clear hto
    have hcl := h.cells
    rw [ht.out] at hcl
    have H := Lib.hid h
    have Hcl := Lib.hid hcl
    clear h hcl
    rw [if_pos rfl]
    go_enter Tryd.func33, Tryd.ntmps33
    go_wp2_with fail
    refine HFD.out.mono ?_
    rintro e w1 ⟨v, rfl, ⟨A, cp, rfl, hc1, hc2, hrd⟩, h1⟩
    have hcl1 := (h1.block sb hslt).trans Hcl.out
    have d0 : w1.cell? ⟨sb, 0, none⟩ = some (.map (some mb)) := cell_of_row w1 sb 0 _ _ _ hcl1
    have d2 : w1.cell? ⟨sb, 2, none⟩ = some (.int .i64 t) := cell_of_row w1 sb 2 _ _ _ hcl1
    have f2 : w1.frozen? ⟨sb, 2, none⟩ = false := frozen_of_row w1 sb 2 _ _ hcl1
    have hcl3 := heap_setCell_same w1 sb 2 _ _ (.int .i64 ((t : Int) - b.length)) hcl1
    have hk3 : Keeps F w (w1.setCell ⟨sb, 2, none⟩ (.int .i64 ((t : Int) - b.length))) := (Keeps.of_below h1 F).setCell (p := ⟨sb, 2, none⟩) (fun _ => H.out.fs) _
    have hu3 : ∀ k, k < w.heap.size → k ≠ sb → (w1.setCell ⟨sb, 2, none⟩ (.int .i64 ((t : Int) - b.length))).heap[k]? = w.heap[k]? := fun k hk hn => (Below.heap_setCell _ _ _ _ hn).trans (h1.block k hk)
    have hsz3 : w.heap.size ≤ (w1.setCell ⟨sb, 2, none⟩ (.int .i64 ((t : Int) - b.length))).heap.size := by rw [World.size_setCell]; exact h1.size
    have hdel := fun T => del_map (mb := mb) (clock := clock) s H.out.e (by rw [hlk.out]; exact fun h => by cases h) (w1.setCell ⟨sb, 2, none⟩ (.int .i64 ((t : Int) - b.length))) T ((hu3 mb hmlt (Ne.symm H.out.ne)).trans H.out.map)
    have HH := Lib.hid (And.intro hcl3 (And.intro hk3 (And.intro hu3 hsz3)))
    clear hcl1 hcl3 hk3 hu3 hsz3
    go_wp2
    go_ret2
    obtain ⟨hcl3, hk3, hu3, hsz3⟩ := HH.out
    generalize w1.setCell ⟨sb, 2, none⟩ (.int .i64 ((t : Int) - b.length)) = w3 at *
    have hne := H.out.ne
    have hkk : ∀ k, k < w.heap.size → k ≠ sb → k ≠ mb → (World.setMap w3 mb (mdel s m) clock).heap[k]? = w.heap[k]? := fun k hk h1 h2 => (setMap_other _ _ _ _ _ h2).trans (hu3 k hk h1)
    have hlt3 : mb < w3.heap.size := by omega
    refine ⟨rfl, ⟨mb, clock, mdel s m, fv, ⟨?_, setMap_same _ _ _ _ hlt3, .inl H.out.fs, .inl H.out.fm, ?_, ?_, ?_⟩⟩, hk3.setMap (fun _ => H.out.fm) _ _⟩
    · refine (setMap_other _ _ _ _ _ hne).trans (hcl3.trans ?_)
      have h1 := ht'.out
      have h2 := Hto.out
      have : (t : Int) - b.length = (tot (odel s c) : Nat) := by omega
      rw [this]
      rfl
    · exact (H.out.q.bound.keep fun k hk _ => hkk k hk.2 hk.1.2.1 hk.1.2.2).mono fun k hk => ⟨.inl hk.1.1, hk.1.2⟩
    · exact EntsR.del s ((H.out.e.bound.keep fun k hk _ => hkk k hk.2 hk.1.2.1 hk.1.2.2.1).mono fun k hk => ⟨.inl hk.1.1, hk.1.2⟩)
    · exact fun y hy => H.out.len y (mem_odel s c y hy)
  · rw [if_neg e0]
    have eb : (e == 0) = false := by rw [beq_eq_false_iff_ne]; exact e0
    clear h e0
    go_enter Tryd.func33, Tryd.ntmps33
    go_wp2_with fail
    refine HFD.out.mono ?_
    rintro e w1 ⟨v, rfl, ⟨A, cp, rfl, hc1, hc2, hrd⟩, h1⟩
    go_wp2
    go_ret2
    exact ⟨rfl, HG.out.grow h1, Keeps.of_below h1 _⟩
end Go.Proofs.YtngmipppgnlkdaaDoor
