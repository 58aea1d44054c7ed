/- store.Get, Fail, New: contracts. -/
import Derived.Test.YtngmipppgnlkdaaDoorDS7
set_option linter.unusedVariables false
set_option linter.unusedSimpArgs false
namespace Go.Proofs.YtngmipppgnlkdaaDoor
open Go.RowKit

def getE (n : Int) (s : ByteArray) (c : Objs) : Int := toldE n (found s c).2
def getB (n : Int) (s : ByteArray) (c : Objs) : List Int := if getE n s c = 0 then (found s c).1 else []

set_option maxHeartbeats 2000000 in
set_option maxRecDepth 100000 in
theorem Get_any (B sb : Nat) (s : ByteArray) (w : World) (F : Foot) (room : Int) (bad : List Int) (c : Objs) (h : StoreAt w F sb room bad c) (hs : s.size ≤ 35184372088832)
    (hE : Env B w) (hFB : ∀ k, F k → B ≤ k) :
    Calls Tryd.prog 12 #[.pointer (some ⟨sb, 0, none⟩), .string s] w (GetPost w F sb room bad.tail c (getB (how bad) s c) (getE (how bad) s c)) := by
  have hm1 := hmf
  have H := Lib.hid (And.intro h.bound hE)
  have ha1 := ta_iface
  have ha2 := ta_nil
  clear h hE
  go_enter Tryd.func12, Tryd.ntmps12
  go_wp2_with fail
  obtain ⟨h, hE⟩ := H.out
  have hbl3 : Below w.heap.size w ((w.alloc (.cells #[.pointer (some ⟨sb, 0, none⟩)] 24)).alloc (.cells #[.string s] 9)) := ((Below.refl _ _).alloc (Nat.le_refl _) _).alloc (by simp) _
  have hp3 : ((w.alloc (.cells #[.pointer (some ⟨sb, 0, none⟩)] 24)).alloc (.cells #[.string s] 9)).cell? ⟨w.heap.size, 0, none⟩ = some (.pointer (some ⟨sb, 0, none⟩)) := by go_simp
  have hq3 : ((w.alloc (.cells #[.pointer (some ⟨sb, 0, none⟩)] 24)).alloc (.cells #[.string s] 9)).cell? ⟨w.heap.size + 1, 0, none⟩ = some (.string s) := by go_simp
  have hE3 := hE.step (hbl3.mono hE.le)
  have hs3 := hbl3.size
  generalize (w.alloc (.cells #[.pointer (some ⟨sb, 0, none⟩)] 24)).alloc (.cells #[.string s] 9) = w3 at hbl3 hp3 hq3 hE3 hs3 ⊢
  refine (call_any 30 #[] #[.pointer (some ⟨w.heap.size, 0, none⟩), .pointer (some ⟨w.heap.size + 1, 0, none⟩)] (fun _ => by kernel_rfl) (GotData (found s c).1 (found s c).2) sb w3 (fun k => F k ∧ k < w.heap.size) room bad c (h.below hbl3) (fun w4 h4 hk4 hz4 => ?_)).mono ?_
  · have hb4 := hk4.below_at hE3.le (fun k hk => hFB k hk.1)
    exact GetF sb _ _ s w4 _ room bad.tail c h4 hs (hE3.step hb4).now
      (hk4.cell hp3 (fun hk => by have := hk.2; simp only at this; omega)) (hk4.cell hq3 (fun hk => by have := hk.2; simp only at this; omega))
  · intro e w5 hc
    have key : ∀ w5, StoreAt w5 (fun k => F k ∧ k < w.heap.size) sb room bad.tail c → Keeps (fun k => F k ∧ k < w.heap.size) w3 w5 → StoreAt w5 F sb room bad.tail c ∧ Keeps F w w5 := fun w5 h5 hk5 =>
      ⟨h5.mono fun _ hk => hk.1, (Keeps.of_below hbl3 F).trans (hk5.mono fun k _ hk => hk.1)⟩
    have HK := Lib.hid key
    clear key H h hE hE3 hp3 hq3
    unfold CallPost at hc
    by_cases hsk : how bad ≠ 0 ∧ how bad ≠ 2
    · rw [if_pos hsk] at hc
      obtain ⟨rfl, h5, hk5⟩ := hc
      have he : getE (how bad) s c = 9 := by unfold getE toldE; rw [if_pos hsk]
      have hfin : Hid (GetPost w F sb room bad.tail c (getB (how bad) s c) (getE (how bad) s c) (.returned (.tuple #[.slice none 0 0, .int .i64 9])) w5) := by
        show GetPost w F sb room bad.tail c (getB (how bad) s c) (getE (how bad) s c) (.returned (.tuple #[.slice none 0 0, .int .i64 9])) w5
        unfold getB
        rw [he]
        exact ⟨_, rfl, ⟨none, 0, rfl, by simp, by omega, RS.nil⟩, HK.out _ h5 hk5⟩
      clear h5 hk5 hsk he
      go_wp2
      go_ret2
      exact hfin.out
    · rw [if_neg hsk] at hc
      obtain ⟨w1, v, err, h1, h2, h3, ⟨u, rfl, rfl, hu, hb5⟩, rfl⟩ := hc
      have h5 := HK.out _ (h1.below hb5) (h2.trans (Keeps.of_below hb5 _))
      have hu5 : RV w5 (New w w5) u (found s c).1 := hu.mono fun k hk => ⟨by have := hk.1; omega, hk.2⟩
      clear hu h1 h2 hb5
      obtain ⟨fe, hfe⟩ : ∃ fe, fe = (found s c).2 := ⟨_, rfl⟩
      rw [← hfe]
      by_cases hc2 : fe = 0 ∧ how bad = 2
      · have he : getE (how bad) s c = 9 := by unfold getE toldE; rw [if_neg hsk, ← hfe, if_pos hc2]
        have hfin : Hid (GetPost w F sb room bad.tail c (getB (how bad) s c) (getE (how bad) s c) (.returned (.tuple #[.slice none 0 0, .int .i64 9])) w5) := by
          show GetPost w F sb room bad.tail c (getB (how bad) s c) (getE (how bad) s c) (.returned (.tuple #[.slice none 0 0, .int .i64 9])) w5
          unfold getB
          rw [he]
          exact ⟨_, rfl, ⟨none, 0, rfl, by simp, by omega, RS.nil⟩, h5⟩
        rw [if_pos hc2]
        clear hsk he hc2 h5 hu5 hfe
        go_wp2
        go_ret2
        exact hfin.out
      · have he : getE (how bad) s c = fe := by unfold getE toldE; rw [if_neg hsk, ← hfe, if_neg hc2]
        rw [if_neg hc2]
        by_cases h0 : fe = 0
        · have hfin : Hid (GetPost w F sb room bad.tail c (getB (how bad) s c) (getE (how bad) s c) (.returned (.tuple #[u, .int .i64 0])) w5) := by
            show GetPost w F sb room bad.tail c (getB (how bad) s c) (getE (how bad) s c) (.returned (.tuple #[u, .int .i64 0])) w5
            unfold getB
            rw [he, if_pos h0, h0]
            exact ⟨_, rfl, hu5, h5⟩
          rw [h0]
          clear hsk he hc2 h5 hu5 hfe h0
          go_wp2
          go_ret2
          exact hfin.out
        · have hfin : Hid (GetPost w F sb room bad.tail c (getB (how bad) s c) (getE (how bad) s c) (.returned (.tuple #[.slice none 0 0, .int .i64 fe])) w5) := by
            show GetPost w F sb room bad.tail c (getB (how bad) s c) (getE (how bad) s c) (.returned (.tuple #[.slice none 0 0, .int .i64 fe])) w5
            unfold getB
            rw [he, if_neg h0]
            exact ⟨_, rfl, ⟨none, 0, rfl, by simp, by omega, RS.nil⟩, h5⟩
          have eb : (fe != 0) = true := by rw [bne_iff_ne]; exact h0
          clear hsk he hc2 h5 hu5 hfe h0
          go_wp2
          go_ret2
          exact hfin.out

def FailPost (w : World) (F : Foot) (sb : Nat) (room : Int) (bad : List Int) (c : Objs) (en : Ending) (w' : World) : Prop :=
  en = .returned (.tuple #[]) ∧ StoreAt w' (Grow F w w') sb room bad c ∧ Keeps F w w'

set_option maxHeartbeats 2000000 in
set_option maxRecDepth 100000 in
theorem Fail_any (sb : Nat) (A : Option Addr) (n cp : Nat) (xs : List Int) (w : World) (F G : Foot) (room : Int) (bad : List Int) (c : Objs) (h : StoreAt w F sb room bad c)
    (hr : RS (kInt .i64) w G A n xs) (hap : Apart G F) (hl : bad.length + n ≤ 1000000000000) :
    Calls Tryd.prog 13 #[.pointer (some ⟨sb, 0, none⟩), .slice A n cp] w (FailPost w F sb room (bad ++ xs) c) := by
  obtain ⟨mb, clock, m, fv, h⟩ := h
  have hq := h.q
  have c3 : w.cell? ⟨sb, 3, none⟩ = some fv := cell_of_row w sb 3 _ _ _ h.cells
  have H := Lib.hid h
  have hap' : ∀ k, fv.ownBlock = some k → ¬ G k := fun k hk hg => hap k hg (hq.lt k hk).1.1
  clear h
  go_enter Tryd.func13, Tryd.ntmps13
  go_wp2_with (first
    | (at_builtin
       refine wpList_push rfl tInts (.tmp 8) (.tmp 9) rfl rfl rfl hq hr hap' (by omega) (by omega) ?_))
  intro v' w1 hP
  obtain ⟨A', c', hv', -, -⟩ := hP.own.slice
  generalize (bad ++ xs).length = L at hv'
  subst hv'
  have hcl := H.out.cells
  have hslt := H.out.slt
  have hnq : fv.ownBlock ≠ some sb := fun e => (hq.lt sb e).1.2.1 rfl
  have hnm : fv.ownBlock ≠ some mb := fun e => (hq.lt mb e).1.2.2 rfl
  have hcl1 : w1.heap[sb]? = some (.cells #[.map (some mb), .int .i64 room, .int .i64 (tot c), fv] 66 (0, 0)) := (hP.keeps.block sb hslt hnq).trans hcl
  have f3 : w1.frozen? ⟨sb, 3, none⟩ = false := frozen_of_row w1 sb 3 _ _ hcl1
  have c31 : w1.cell? ⟨sb, 3, none⟩ = some fv := cell_of_row w1 sb 3 _ _ _ hcl1
  have Hcl1 := Lib.hid hcl1
  clear hcl hcl1 hq
  go_wp2
  go_end0
  have h := H.out
  have hcl2 := heap_setCell_same w1 sb 3 _ _ (.slice A' L c') Hcl1.out
  have hoth : ∀ k, k ≠ sb → (w1.setCell ⟨sb, 3, none⟩ (.slice A' L c')).heap[k]? = w1.heap[k]? := fun k hk => Below.heap_setCell _ _ _ _ hk
  have hs1 := hP.keeps.size
  refine ⟨rfl, ⟨mb, clock, m, .slice A' L c', ⟨hcl2, (hoth mb (Ne.symm h.ne)).trans ((hP.keeps.block mb h.mlt hnm).trans h.map), .inl h.fs, .inl h.fm, ?_, ?_, h.len⟩⟩, ?_⟩
  · refine (hP.own.keep (W' := w1.setCell ⟨sb, 3, none⟩ (.slice A' L c')) fun k hk _ => hoth k ?_).mono fun k hk => ?_
    · rcases hk with hk | hk
      · exact hk.2.1
      · omega
    · rcases hk with hk | hk
      · exact ⟨.inl hk.1, hk.2⟩
      · exact ⟨.inr ⟨hk.1, by rw [World.size_setCell]; exact hk.2⟩, by omega, by have := h.mlt; omega⟩
  · refine (h.e.bound.keep (W' := w1.setCell ⟨sb, 3, none⟩ (.slice A' L c')) fun k hk _ => (hoth k hk.1.2.1).trans (hP.keeps.block k hk.2 hk.1.2.2.2)).mono fun k hk => ⟨.inl hk.1.1, hk.1.2.1, hk.1.2.2.1, fun he => ?_⟩
    rcases hP.lies k he with h1 | h1
    · exact hk.1.2.2.2 h1
    · have := hk.2; omega
  · exact (hP.keeps.mono fun k _ hk => (h.q.lt k hk).1.1).setCell (p := ⟨sb, 3, none⟩) (fun _ => h.fs) _

set_option maxHeartbeats 2000000 in
theorem SNew_any (room : Int) (w : World) (h0 : -9223372036854775808 ≤ room) (h1 : room ≤ 9223372036854775807) :
    Calls Tryd.prog 9 #[.int .i64 room] w fun e w' => ∃ sb, e = .returned (.pointer (some ⟨sb, 0, none⟩)) ∧ StoreAt w' (New w w') sb (max 0 room) [] [] ∧ Below w.heap.size w w' := by
  have hmm := @run_makeMap Tryd.prog
  go_enter Tryd.func9, Tryd.ntmps9
  go_wp2
  go_ret
  refine ⟨w.heap.size + 1, rfl, ⟨w.heap.size, 0, [], .slice none 0 0, ⟨?_, ?_, ⟨by omega, by simp⟩, ⟨by omega, by simp; omega⟩, Queue.nil, trivial, by simp⟩⟩, ((Below.refl _ _).alloc (Nat.le_refl _) _).alloc (by simp) _⟩
  · have := heap_alloc_new (w.alloc (.map #[] 0)) (.cells #[.map (some w.heap.size), .int .i64 (max 0 room), .int .i64 0, .slice none 0 0] 66)
    rw [World.size_alloc] at this
    exact this
  · exact (Below.heap_alloc _ _ _ (by simp)).trans (heap_alloc_new w _)
end Go.Proofs.YtngmipppgnlkdaaDoor
