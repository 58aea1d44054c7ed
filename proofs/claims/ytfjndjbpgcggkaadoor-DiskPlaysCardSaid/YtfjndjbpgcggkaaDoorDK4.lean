/- disk.Append, walked. -/
import Derived.Test.YtfjndjbpgcggkaaDoorDK3
set_option linter.unusedVariables false
set_option linter.unusedSimpArgs false
namespace Go.Proofs.YtfjndjbpgcggkaaDoor
open Go.RowKit
attribute [local go_sem] Same.cell

structure DOk (room : Int) (c : FObjs) : Prop where
  r0 : 0 ≤ room
  r1 : room ≤ 9223372036854775807
  t1 : osum flen c ≤ 1000000000000
def dappE (s : ByteArray) (n : Nat) (room : Int) (c : FObjs) : Int := if validName s = false then 6 else if (n : Int) > room - osum flen c then 7 else 0
def dappC (s : ByteArray) (b : List Int) (room : Int) (c : FObjs) : FObjs := if dappE s b.length room c = 0 then oput s ((dfound s c).1.1 ++ b, (dfound s c).1.2 + b.length) c else c
def DPost (w : World) (F : Foot) (db : Nat) (room : Int) (c' : FObjs) (err : Int) (en : Ending) (w' : World) : Prop :=
  en = .returned (.int .i64 err) ∧ DiskAt w' (Grow F w w') db room c' ∧ Keeps F w w'
theorem below_drewN {w w' : World} (h : Below w.heap.size w w') (n : Nat) : Below w.heap.size w (w'.drewN n) := ⟨h.os, h.tape, h.output, h.size, h.block⟩
theorem dfound_len (s : ByteArray) (c : FObjs) (h : ∀ y ∈ c, y.2.1.length ≤ 1000000000000 ∧ y.2.2 ≤ y.2.1.length) : (dfound s c).1.2 ≤ (dfound s c).1.1.length ∧ (dfound s c).1.1.length ≤ osum flen c ∧ (dfound s c).1.1.length = (if validName s = false then 0 else szAt flen s c) := by
  unfold dfound
  by_cases hv : validName s = false
  · rw [if_pos hv, if_pos hv]; exact ⟨Nat.le_refl _, Nat.zero_le _, rfl⟩
  · rw [if_neg hv, if_neg hv]
    have hs := szAt_le (f := flen) s c
    unfold szAt at hs ⊢
    cases hl : look s c with
    | none => exact ⟨Nat.le_refl _, Nat.zero_le _, rfl⟩
    | some f =>
      rw [hl] at hs
      exact ⟨(h _ (look_mem s f c hl)).2, hs, rfl⟩

/-- Two slices in a row. -/
theorem lit2 {α : Type} {K : Kind α} {T : TypeId} (W : World) {F : Foot} {A1 A2 : Option Addr} {n1 c1 n2 c2 : Nat} {x y : List α} (h1 : RS K W F A1 n1 x) (h2 : RS K W F A2 n2 y) (l1 : n1 ≤ c1 ∧ c1 ≤ 9223372036854775807) (l2 : n2 ≤ c2 ∧ c2 ≤ 9223372036854775807) :
    RS (kSlice K) (W.alloc (.cells #[.slice A1 n1 c1, .slice A2 n2 c2] T)) (fun k => F k ∨ k = W.heap.size) (some ⟨W.heap.size, 0, none⟩) 2 [x, y] := by
  obtain rfl := h1.length
  obtain rfl := h2.length
  exact RS.lit W (F := F) (xs := [x, y]) (Elems.append (Elems.single (K := kSlice K) ⟨A1, c1, rfl, l1.1, l1.2, h1⟩) (Elems.single (K := kSlice K) ⟨A2, c2, rfl, l2.1, l2.2, h2⟩))

set_option maxHeartbeats 4000000 in
set_option maxRecDepth 100000 in
theorem dappend_any (db : Nat) (s : ByteArray) (A : Option Addr) (n cp : Nat) (b : List Int) (w : World) (F G : Foot) (room : Int) (c : FObjs) (h : DiskAt w F db room c) (ok : DOk room c) (hs : s.size ≤ 35184372088832) (hT : TabsBelow w.heap.size w)
    (hb : RS (kInt .u8) w G A n b) (hcp : n ≤ cp ∧ cp ≤ 9223372036854775807) (hap : Apart G F) (hn : osum flen c + n ≤ 1000000000000) :
    Calls Tryd.prog 14 #[.pointer (some ⟨db, 0, none⟩), .string s, .slice A n cp] w (DPost w F db room (dappC s b room c) (dappE s n room c)) := by
  have hbl := hb.length
  have HG := Lib.hid h
  obtain ⟨mb, clock, m, h⟩ := h
  have HFD := Lib.hid (dfound_any db mb clock m s w F room c h hs hT)
  have hfl := dfound_len s c h.len
  clear hT
  obtain ⟨f, hf⟩ : ∃ f, Hid ((dfound s c).1 = f) := ⟨_, rfl⟩
  obtain ⟨e0, he0⟩ : ∃ e, Hid ((dfound s c).2 = e) := ⟨_, rfl⟩
  rw [hf.out, he0.out] at HFD
  rw [hf.out] at hfl
  have hC : Hid (dappC s b room c = if dappE s n room c = 0 then oput s (f.1 ++ b, f.2 + n) c else c) := by
    show dappC s b room c = _
    unfold dappC
    rw [hbl, hf.out]
  rw [hC.out]
  have hslt := h.slt
  have hmlt := h.mlt
  obtain ⟨r0, r1, t1⟩ := ok
  obtain ⟨t, ht⟩ : ∃ t, Hid (osum flen c = t) := ⟨_, rfl⟩
  rw [ht.out] at t1 hn hfl
  obtain ⟨fl1, fl2, fl3⟩ := hfl
  have Hfl3 := Lib.hid fl3
  have Hbl := Lib.hid hbl
  clear hbl fl3
  have hcl := h.cells
  rw [ht.out] at hcl
  have H := Lib.hid h
  have Hcl := Lib.hid hcl
  clear h hcl
  cases hv : validName s with
  | false =>
    have he : dappE s n room c = 6 := by unfold dappE; rw [if_pos hv]
    have e6 : e0 = 6 := by rw [← he0.out]; unfold dfound; rw [if_pos hv]
    subst e6
    rw [he, if_neg (by decide)]
    clear hv he
    go_enter Tryd.func14, Tryd.ntmps14
    go_wp2_with fail
    refine HFD.out.mono ?_
    rintro e w1 ⟨A1, cp1, rfl, l1, l2, hrd, h1⟩
    have HH := Lib.hid h1
    clear h1 hrd
    go_wp2
    go_ret
    have h2 : Below w.heap.size w (w1.alloc (.cells #[.slice A1 f.1.length cp1, .int .i64 f.2] 99)) := HH.out.alloc HH.out.size _
    exact ⟨rfl, HG.out.grow h2, Keeps.of_below h2 _⟩
  | true =>
    have hE : dappE s n room c = if (n : Int) > room - osum flen c then 7 else 0 := by unfold dappE; rw [if_neg (by rw [hv]; decide)]
    rw [ht.out] at hE
    have en6 : (e0 == 6) = false := by
      rw [beq_eq_false_iff_ne, ← he0.out]
      unfold dfound
      rw [if_neg (by rw [hv]; decide)]
      cases look s c <;> simp
    have HVt := Lib.hid hv
    clear hv
    by_cases hfu : (n : Int) > room - t
    · rw [if_pos hfu] at hE
      rw [hE, if_neg (by decide)]
      clear hE
      go_enter Tryd.func14, Tryd.ntmps14
      go_wp2_with fail
      refine HFD.out.mono ?_
      rintro e w1 ⟨A1, cp1, rfl, l1, l2, hrd, h1⟩
      have hcl1 := (h1.block db hslt).trans Hcl.out
      have d1 : w1.cell? ⟨db, 1, none⟩ = some (.int .i64 room) := cell_of_row w1 db 1 _ _ _ hcl1
      have d2 : w1.cell? ⟨db, 2, none⟩ = some (.int .i64 t) := cell_of_row w1 db 2 _ _ _ hcl1
      have hdlt : db < w1.heap.size := Nat.lt_of_lt_of_le hslt h1.size
      have HH := Lib.hid h1
      clear h1 hrd hcl1
      go_wp2
      go_quiet (fail)
      go_wp2
      go_ret
      have h2 : Below w.heap.size w ((w1.alloc (.cells #[.slice A1 f.1.length cp1, .int .i64 f.2] 99)).drewN nq) := below_drewN (HH.out.alloc HH.out.size _) _
      exact ⟨rfl, HG.out.grow h2, Keeps.of_below h2 _⟩
    · rw [if_neg hfu] at hE
      rw [hE, if_pos rfl]
      clear hE
      go_enter Tryd.func14, Tryd.ntmps14
      go_wp2_with fail
      refine HFD.out.mono ?_
      rintro e w1 ⟨A1, cp1, rfl, l1, l2, hrd, h1⟩
      have hcl1 := (h1.block db hslt).trans Hcl.out
      have d1 : w1.cell? ⟨db, 1, none⟩ = some (.int .i64 room) := cell_of_row w1 db 1 _ _ _ hcl1
      have d2 : w1.cell? ⟨db, 2, none⟩ = some (.int .i64 t) := cell_of_row w1 db 2 _ _ _ hcl1
      have hdlt : db < w1.heap.size := Nat.lt_of_lt_of_le hslt h1.size
      have HH := Lib.hid (And.intro h1 hrd)
      clear h1 hrd hcl1
      go_wp2
      go_quiet (fail)
      have h2 : Below w.heap.size w ((w1.alloc (.cells #[.slice A1 f.1.length cp1, .int .i64 f.2] 99)).drewN nq) := below_drewN (HH.out.1.alloc HH.out.1.size _) _
      have hfb : ((w1.alloc (.cells #[.slice A1 f.1.length cp1, .int .i64 f.2] 99)).drewN nq).heap[w1.heap.size]? = some (.cells #[.slice A1 f.1.length cp1, .int .i64 f.2] 99 (0, 0)) := heap_alloc_new w1 _
      have hrd2 : RS (kInt .u8) ((w1.alloc (.cells #[.slice A1 f.1.length cp1, .int .i64 f.2] 99)).drewN nq) (fun k => F k ∧ k ≠ db ∧ k ≠ mb ∧ k < w.heap.size) A1 f.1.length f.1 := (HH.out.2.alloc _).drewN _
      have hq1 : w.heap.size ≤ w1.heap.size := HH.out.1.size
      clear d1 d2 hdlt
      generalize (w1.alloc (.cells #[.slice A1 f.1.length cp1, .int .i64 f.2] 99)).drewN nq = w2 at h2 hfb hrd2 ⊢
      generalize w1.heap.size = q at hfb hq1 ⊢
      have hqlt : q < w2.heap.size := (Array.getElem?_eq_some_iff.1 hfb).1
      have hcl2 := (h2.block db hslt).trans Hcl.out
      have d2 : w2.cell? ⟨db, 2, none⟩ = some (.int .i64 t) := cell_of_row w2 db 2 _ _ _ hcl2
      have f2 : w2.frozen? ⟨db, 2, none⟩ = false := frozen_of_row w2 db 2 _ _ hcl2
      have hcl3 := heap_setCell_same w2 db 2 _ _ (.int .i64 ((t : Int) + n)) hcl2
      have hk3 : Keeps F w (w2.setCell ⟨db, 2, none⟩ (.int .i64 ((t : Int) + n))) := (Keeps.of_below h2 F).setCell (p := ⟨db, 2, none⟩) (fun _ => H.out.fs) _
      have hu3 : ∀ k, k ≠ db → (w2.setCell ⟨db, 2, none⟩ (.int .i64 ((t : Int) + n))).heap[k]? = w2.heap[k]? := fun k hn => Below.heap_setCell _ _ _ _ hn
      have hs3 : (w2.setCell ⟨db, 2, none⟩ (.int .i64 ((t : Int) + n))).heap.size = w2.heap.size := World.size_setCell ..
      have e0' : (w2.setCell ⟨db, 2, none⟩ (.int .i64 ((t : Int) + n))).cell? ⟨db, 0, none⟩ = some (.map (some mb)) := cell_of_row _ db 0 _ _ _ hcl3
      have hdq : q ≠ db := by have := hslt; omega
      have p0 : (w2.setCell ⟨db, 2, none⟩ (.int .i64 ((t : Int) + n))).cell? ⟨q, 0, none⟩ = some (.slice A1 f.1.length cp1) := cell_of_row _ q 0 _ _ _ ((hu3 q hdq).trans hfb)
      have p1 : (w2.setCell ⟨db, 2, none⟩ (.int .i64 ((t : Int) + n))).cell? ⟨q, 1, none⟩ = some (.int .i64 f.2) := cell_of_row _ q 1 _ _ _ ((hu3 q hdq).trans hfb)
      have H3 := Lib.hid (And.intro hcl3 (And.intro hk3 hu3))
      have Hfb := Lib.hid hfb
      have Hrd2 := Lib.hid hrd2
      have h2s := h2.size
      have H2 := Lib.hid h2
      clear hcl2 hcl3 hk3 hu3 hfb hrd2 HH h2
      go_wp2
      clear d2 f2
      generalize w2.setCell ⟨db, 2, none⟩ (.int .i64 ((t : Int) + n)) = w3 at H3 hs3 e0' p0 p1 ⊢
      have hs3d : db < w3.heap.size := by omega
      have hs3q : q < w3.heap.size := by omega
      have Hs3 := Lib.hid hs3
      clear hs3
      have hNF : ¬ NoF db := id
      have hNFq : ¬ NoF q := id
      refine wp_region_plan [0, 0, 0, 0, 0, 0, 0, 0, 1, 1, 0, 0, 0, 0, 0, 1, 2] (fun w' => ∃ D : Same NoF w3, w' = D.world) (by kernel_rfl) (by kernel_rfl) InSame.start ?_
      simp only [sel, selE, Nat.reduceEqDiff, reduceIte]
      repeat (go_big_quiet_step (fail))
      refine wpQuiet_nil ?_
      refine wpE_cons (fun N hN => ?_)
      go_wp2
      have hap' : Apart G (fun k => k = db) := fun k h1 h2 => hap k h1 (by rw [h2]; exact H.out.fs)
      have hb3 : RS (kInt .u8) w3.drew (fun k => (F k ∨ G k) ∧ k < w3.heap.size) A n b := ((hb.bound.keep (W' := w3.drew) fun k hk _ => (H3.out.2.2 k (fun e => hap' k hk.1 e)).trans (H2.out.block k hk.2))).mono fun k hk => ⟨.inr hk.1, by have := Hs3.out; have := hk.2; omega⟩
      have hf3 : RS (kInt .u8) w3.drew (fun k => (F k ∨ G k) ∧ k < w3.heap.size) A1 f.1.length f.1 := (Hrd2.out.keep (W' := w3.drew) fun k hk _ => H3.out.2.2 k hk.2.1).mono fun k hk => ⟨.inl hk.1, by have := Hs3.out; have := hk.2.2.2; omega⟩
      have hl2 := lit2 (T := 26) w3.drew hf3 hb3 ⟨l1, l2⟩ hcp
      have hb4 : Below w3.heap.size w3 (w3.drew.alloc (.cells #[.slice A1 f.1.length cp1, .slice A n cp] 26)) := below_undrew ((Below.refl _ _).alloc (Nat.le_refl _) _)
      refine hN _ _ (InSame.of_below hb4) ?_
      clear hN N
      refine wpE_cons (fun N hN => ?_)
      go_wp2_with fail
      refine (concat_any _ 2 _ _ [f.1, b] hl2 (by simp) (by simp; have := Hbl.out; omega)).mono ?_
      rintro e w5 ⟨v, rfl, hM⟩
      obtain ⟨A5, c5, hv5, hc5, hm5⟩ := hM.own.slice
      have hfl5 : [f.1, b].flatten = f.1 ++ b := by simp
      rw [hfl5] at hM hv5 hc5
      have hrv5 : RS (kInt .u8) w5 (New w3 w5) A5 (f.1 ++ b).length (f.1 ++ b) := by
        obtain ⟨A6, c6, h6, -, -, hr6⟩ := hM.own.reads
        rw [hv5] at h6
        injection h6 with h6 _ _
        subst h6
        exact hr6.mono fun k hk => ⟨by have := hk.1; have := hb4.size; omega, hk.2⟩
      have hb5 : Below w3.heap.size w3 w5 := hb4.trans (hM.below.mono hb4.size)
      obtain ⟨L5, hL5⟩ : ∃ L, Hid ((f.1 ++ b).length = L) := ⟨_, rfl⟩
      rw [hL5.out] at hv5 hc5 hrv5
      subst hv5
      clear hM hfl5 hl2 hb3 hf3 hb4
      go_wp2
      refine hN _ _ (InSame.of_below hb5) ?_
      clear hN N
      refine wpE_cons (fun N hN => ?_)
      go_wp2
      refine hN _ _ (InSame.of_below hb5) ?_
      clear hN N
      refine wpE_nil ?_
      obtain ⟨m', clock', hwf', hput, hents⟩ := put_map (mb := mb) (clock := clock) mDisk s (.agg #[.slice A5 L5 c5, .int .i64 ((f.2 : Int) + n)]) H.out.e H.out.wf
      have hne := H.out.ne
      have hsw : w.heap.size ≤ w3.heap.size := by have := Hs3.out; omega
      have hw3 : ∀ k, k < w.heap.size → k ≠ db → w3.heap[k]? = w.heap[k]? := fun k hk hn => (H3.out.2.2 k hn).trans (H2.out.block k hk)
      have hm5 : w5.heap[mb]? = some (.map (ents m).toArray clock) := (hb5.block mb (by omega)).trans ((hw3 mb hmlt (Ne.symm hne)).trans H.out.map)
      have hrun5 := hput w5 hm5
      have HX := Lib.hid (And.intro hents (And.intro hwf' hw3))
      clear hents hput hm5 hwf' hw3
      go_wp2
      go_ret
      obtain ⟨hents, hwf', hw3⟩ := HX.out
      have hs5 := hb5.size
      have hkk : ∀ k, k < w.heap.size → k ≠ db → k ≠ mb → (World.setMap w5 mb m' clock').heap[k]? = w.heap[k]? := fun k hk h1 h2 =>
        (setMap_other _ _ _ _ _ h2).trans ((hb5.block k (by omega)).trans (hw3 k hk h1))
      have hlt5 : mb < w5.heap.size := by omega
      have hwsz : (World.setMap w5 mb m' clock').heap.size = w5.heap.size := setMap_size _ _ _ _
      have hsum := osum_put (f := flen) s (f.1 ++ b, f.2 + n) c
      have hsz : szAt flen s c = f.1.length := by rw [Hfl3.out, if_neg (by rw [HVt.out]; decide)]
      refine ⟨rfl, ⟨mb, clock', m', ⟨?_, setMap_same _ _ _ _ hlt5, .inl H.out.fs, .inl H.out.fm, ?_, ?_, hwf', nodup_oput s _ c H.out.nd⟩⟩, ((H3.out.2.1).then_below hb5).setMap (fun _ => H.out.fm) _ _⟩
      · refine (setMap_other _ _ _ _ _ hne).trans ((hb5.block db (by omega)).trans (H3.out.1.trans ?_))
        have hfl : flen (f.1 ++ b, f.2 + n) = f.1.length + n := by unfold flen; rw [List.length_append, Hbl.out]
        have h1 := ht.out
        have : (t : Int) + n = (osum flen (oput s (f.1 ++ b, f.2 + n) c) : Nat) := by omega
        rw [this]
        rfl
      · refine hents _ _ (f.1 ++ b, f.2 + n) ((H.out.e.bound.keep fun k hk _ => hkk k hk.2 hk.1.2.1 hk.1.2.2).mono fun k hk => ⟨.inl hk.1.1, hk.1.2⟩) ?_
        refine ⟨A5, c5, ?_, ?_, hm5, ?_⟩
        · rw [hL5.out]
          go_num
        · rw [hL5.out]; exact hc5
        · rw [hL5.out]
          refine (hrv5.keep (W' := World.setMap w5 mb m' clock') fun k hk _ => setMap_other _ _ _ _ _ ?_).mono fun k hk => ?_
          · have := hk.1; omega
          · have h1 := hk.1
            have h2 := hk.2
            exact ⟨.inr ⟨by omega, by omega⟩, by omega, by omega⟩
      · intro y hy
        rcases mem_oput s _ c y hy with h | h
        · exact H.out.len y h
        · rw [h]
          have := Hbl.out
          simp only [List.length_append]
          omega
end Go.Proofs.YtfjndjbpgcggkaaDoor
