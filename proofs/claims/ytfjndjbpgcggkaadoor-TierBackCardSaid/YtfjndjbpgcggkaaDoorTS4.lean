/- store.put, walked. -/
import Derived.Test.YtfjndjbpgcggkaaDoorTS3
import Derived.Test.YtfjndjbpgcggkaaDoorR
set_option linter.unusedVariables false
set_option linter.unusedSimpArgs false
namespace Go.Proofs.YtfjndjbpgcggkaaDoor
open Go.RowKit
attribute [local go_sem] Same.cell

/-- A look-up of the store's map: a slice as long as what is there. -/
theorem look_len {W : World} {F : Foot} {mb clock : Nat} {m : Ents} {c : SObjs} (s : ByteArray) (he : EntsR kBytes W F m c) :
    ∃ (A : Option Addr) (cp : Nat), ∀ w1 : World, w1.heap[mb]? = some (.map (ents m).toArray clock) → (Instr.lookup 152 (.map (some mb)) (.string s) false).run Tryd.prog w1 = .ok (.slice A (szAt List.length s c) cp) w1 := by
  rcases look_map (mb := mb) (clock := clock) mStore s he with ⟨b, v, hl, ⟨A, cp, rfl, _⟩, hr⟩ | ⟨hl, hr⟩
  · refine ⟨A, cp, fun w1 h1 => ?_⟩
    rw [(hr w1 h1).1]
    unfold szAt
    rw [hl]
  · refine ⟨none, 0, fun w1 h1 => ?_⟩
    rw [(hr w1 h1).1]
    unfold szAt
    rw [hl]

def putErr (s : ByteArray) (b : List Int) (room : Int) (c : SObjs) : Int :=
  if validName s = false then 6 else if (b.length : Int) - szAt List.length s c > room - osum List.length c then 7 else 0
def putC (s : ByteArray) (b : List Int) (room : Int) (c : SObjs) : SObjs := if putErr s b room c = 0 then oput s b c else c
def PutPost (w : World) (F : Foot) (sb : Nat) (room : Int) (bad : List Int) (c' : SObjs) (err : Int) (en : Ending) (w' : World) : Prop :=
  en = .returned (.tuple #[.nilIface, .int .i64 err]) ∧ StoreAt w' (Grow F w w') sb room bad c' ∧ Keeps F w w'
structure StOk (room : Int) (c : SObjs) : Prop where
  r0 : 0 ≤ room
  r1 : room ≤ 9223372036854775807
  t1 : osum List.length c ≤ 1000000000000000

theorem StoreAt.grow {W W' : World} {F : Foot} {sb : Nat} {room : Int} {bad : List Int} {c : SObjs} (h : StoreAt W F sb room bad c) (hk : Below W.heap.size W W') : StoreAt W' (Grow F W W') sb room bad c :=
  (h.below hk).mono fun _ hk => .inl hk

set_option maxHeartbeats 2000000 in
set_option maxRecDepth 100000 in
theorem put_any (sb : Nat) (s : ByteArray) (A : Option Addr) (n cp : Nat) (b : List Int) (w : World) (F G : Foot) (room : Int) (bad : List Int) (c : SObjs) (h : StoreAt w F sb room bad c) (ok : StOk room c) (hs : s.size ≤ 35184372088832) (hT : TabsBelow w.heap.size w)
    (hb : RS (kInt .u8) w G A n b) (hap : Apart G F) (hn : n ≤ 1000000000000) :
    Calls Tryd.prog 139 #[.pointer (some ⟨sb, 0, none⟩), .string s, .slice A n cp] w (PutPost w F sb room bad (putC s b room c) (putErr s b room c)) := by
  have hbl := hb.length
  have HG := Lib.hid h
  obtain ⟨mb, clock, m, fv, h⟩ := h
  have HV := Lib.hid (fun w1 => Valid_any s w1 hs)
  have HT := Lib.hid hT
  clear hT hs
  obtain ⟨A2, cp2, hlook⟩ := look_len (mb := mb) (clock := clock) s h.e
  have hrun := hlook w h.map
  have hszt := szAt_le (f := List.length) s c
  have hle : ∀ l : List Int, look s c = some l → l.length ≤ 1000000000000 := fun l hl => h.len _ (look_mem s l c hl)
  have hsz : szAt List.length s c ≤ 1000000000000 := by
    unfold szAt
    cases hl : look s c with
    | none => exact Nat.zero_le _
    | some l => exact hle l hl
  clear hle hlook
  have c0 : w.cell? ⟨sb, 0, none⟩ = some (.map (some mb)) := cell_of_row w sb 0 _ _ _ h.cells
  have hslt := h.slt
  have hmlt := h.mlt
  obtain ⟨r0, r1, t1⟩ := ok
  obtain ⟨z, hz⟩ : ∃ z, Hid (szAt List.length s c = z) := ⟨_, rfl⟩
  obtain ⟨t, ht⟩ : ∃ t, Hid (osum List.length c = t) := ⟨_, rfl⟩
  rw [hz.out] at hrun hszt hsz
  rw [ht.out] at hszt t1
  have Hbl := Lib.hid hbl
  clear hbl
  cases hv : validName s with
  | false =>
    have he : putErr s b room c = 6 := by unfold putErr; rw [if_pos hv]
    have hc : putC s b room c = c := by unfold putC; rw [he]; rfl
    rw [hc, he]
    rw [hv] at HV
    clear hv he hc h
    go_enter Tryd.func139, Tryd.ntmps139
    go_wp2_with fail
    refine (HV.out _ HT.out).mono ?_
    rintro e w1 ⟨rfl, h1⟩
    go_wp2
    go_ret2
    exact ⟨rfl, HG.out.grow h1, Keeps.of_below h1 _⟩
  | true =>
    rw [hv] at HV
    have he : putErr s b room c = if (b.length : Int) - szAt List.length s c > room - osum List.length c then 7 else 0 := by unfold putErr; rw [if_neg (by rw [hv]; decide)]
    rw [hz.out, ht.out, Hbl.out] at he
    clear hv
    by_cases hf : (n : Int) - z > room - t
    · rw [if_pos hf] at he
      have hc : putC s b room c = c := by unfold putC; rw [he]; rfl
      rw [hc, he]
      clear he hc
      have hcl := h.cells
      rw [ht.out] at hcl
      have c1 : w.cell? ⟨sb, 1, none⟩ = some (.int .i64 room) := cell_of_row w sb 1 _ _ _ hcl
      have c2 : w.cell? ⟨sb, 2, none⟩ = some (.int .i64 t) := cell_of_row w sb 2 _ _ _ hcl
      clear h hcl
      go_enter Tryd.func139, Tryd.ntmps139
      go_wp2_with fail
      refine (HV.out _ HT.out).mono ?_
      rintro e w1 ⟨rfl, h1⟩
      have d1 : w1.cell? ⟨sb, 1, none⟩ = some (.int .i64 room) := (h1.cell (p := ⟨sb, 1, none⟩) hslt).trans c1
      have d2 : w1.cell? ⟨sb, 2, none⟩ = some (.int .i64 t) := (h1.cell (p := ⟨sb, 2, none⟩) hslt).trans c2
      go_wp2
      go_quiet (fail)
      go_wp2
      go_ret2
      exact ⟨rfl, HG.out.grow (below_drewN h1 _), Keeps.of_below (below_drewN h1 _) _⟩
    · rw [if_neg hf] at he
      have hc : putC s b room c = oput s b c := by unfold putC; rw [he]; rfl
      rw [hc, he]
      clear he hc
      have hcl := h.cells
      rw [ht.out] at hcl
      have c1 : w.cell? ⟨sb, 1, none⟩ = some (.int .i64 room) := cell_of_row w sb 1 _ _ _ hcl
      have c2 : w.cell? ⟨sb, 2, none⟩ = some (.int .i64 t) := cell_of_row w sb 2 _ _ _ hcl
      have H := Lib.hid h
      have Hcl := Lib.hid hcl
      clear h hcl
      go_enter Tryd.func139, Tryd.ntmps139
      go_wp2_with fail
      refine (HV.out _ HT.out).mono ?_
      rintro e w1 ⟨rfl, h1⟩
      have d1 : w1.cell? ⟨sb, 1, none⟩ = some (.int .i64 room) := (h1.cell (p := ⟨sb, 1, none⟩) hslt).trans c1
      have d2 : w1.cell? ⟨sb, 2, none⟩ = some (.int .i64 t) := (h1.cell (p := ⟨sb, 2, none⟩) hslt).trans c2
      go_wp2
      go_quiet (fail)
      have h2 := below_drewN h1 nq
      have hcl2 := (h2.block sb hslt).trans Hcl.out
      generalize w1.drewN nq = w2 at h2 hcl2 ⊢
      clear d1 d2
      have d0 : w2.cell? ⟨sb, 0, none⟩ = some (.map (some mb)) := cell_of_row w2 sb 0 _ _ _ hcl2
      have d2 : w2.cell? ⟨sb, 2, none⟩ = some (.int .i64 t) := cell_of_row w2 sb 2 _ _ _ hcl2
      have f2 : w2.frozen? ⟨sb, 2, none⟩ = false := frozen_of_row w2 sb 2 _ _ hcl2
      have hcl3 := heap_setCell_same w2 sb 2 _ _ (.int .i64 ((t : Int) + (n - z))) hcl2
      have hk3 : Keeps F w (w2.setCell ⟨sb, 2, none⟩ (.int .i64 ((t : Int) + (n - z)))) := (Keeps.of_below h2 F).setCell (p := ⟨sb, 2, none⟩) (fun _ => H.out.fs) _
      have Hcl2 := Lib.hid hcl2
      clear hcl2
      have Hcl3 := Lib.hid (And.intro hcl3 hk3)
      clear hcl3 hk3
      go_wp2
      have hu4 : ∀ k, k < w.heap.size → k ≠ sb → (w2.setCell ⟨sb, 2, none⟩ (.int .i64 ((t : Int) + (n - z)))).heap[k]? = w.heap[k]? := fun k hk hn => (Below.heap_setCell _ _ _ _ hn).trans (h2.block k hk)
      have hsz3 : w.heap.size ≤ (w2.setCell ⟨sb, 2, none⟩ (.int .i64 ((t : Int) + (n - z)))).heap.size := by rw [World.size_setCell]; exact h2.size
      have e0 : (w2.setCell ⟨sb, 2, none⟩ (.int .i64 ((t : Int) + (n - z)))).cell? ⟨sb, 0, none⟩ = some (.map (some mb)) := cell_of_row _ sb 0 _ _ _ Hcl3.out.1
      have HU := Lib.hid hu4
      clear d0 d2 f2 c1 c2 hu4
      generalize w2.setCell ⟨sb, 2, none⟩ (.int .i64 ((t : Int) + (n - z))) = w3 at Hcl3 HU hsz3 e0 ⊢
      have hs3 : sb < w3.heap.size := by omega
      have hNF : ¬ NoF sb := id
      refine wp_region_plan [0, 0, 0, 0, 0, 0, 1, 2] (fun w' => ∃ D : Same NoF w3, w' = D.world) (by kernel_rfl) (by kernel_rfl) InSame.start ?_
      simp only [sel, selE, Nat.reduceEqDiff, reduceIte]
      repeat (go_big_quiet_step (fail))
      refine wpQuiet_nil ?_
      refine wpE_cons (fun N hN => ?_)
      go_wp2_with fail
      have hb3 : RS (kInt .u8) w3.drew (fun k => G k ∧ k ≠ sb ∧ k < w.heap.size) A n b :=
        (hb.bound.keep (W' := w3.drew) fun k hk _ => HU.out k hk.2 (fun e => hap k hk.1 (e ▸ H.out.fs))).mono fun k hk => ⟨hk.1, fun e => hap k hk.1 (e ▸ H.out.fs), hk.2⟩
      refine (clone_byte A n cp w3.drew _ b hb3 hn).mono ?_
      rintro e w4 ⟨v, rfl, hM⟩
      have h4 : Below w3.heap.size w3 w4 := below_undrew hM.below
      have hv4 := RV.of_own hM.own
      go_wp2
      refine hN _ _ (InSame.of_below h4) ?_
      refine wpE_nil ?_
      clear hN N
      obtain ⟨m', clock', hwf', hput, hents⟩ := put_map (mb := mb) (clock := clock) mStore s v H.out.e H.out.wf
      have HW := Lib.hid hwf'
      clear hwf'
      have hne := H.out.ne
      have hm4 : w4.heap[mb]? = some (.map (ents m).toArray clock) := (h4.block mb (by omega)).trans ((HU.out mb hmlt (Ne.symm hne)).trans H.out.map)
      have hrun4 := hput w4 hm4
      have HH := Lib.hid hents
      have HX := Lib.hid hm4
      clear hents hput hm4 hrun
      go_wp2
      go_ret2
      have hsz4 := h4.size
      have hkk : ∀ k, k < w.heap.size → k ≠ sb → k ≠ mb → (World.setMap w4 mb m' clock').heap[k]? = w.heap[k]? := fun k hk h1 h2 =>
        (setMap_other _ _ _ _ _ h2).trans ((h4.block k (by omega)).trans (HU.out k hk h1))
      have hlt4 : mb < w4.heap.size := by omega
      have hwsz : (World.setMap w4 mb m' clock').heap.size = w4.heap.size := setMap_size _ _ _ _
      have htot := osum_put (f := List.length) s b c
      rw [hz.out, ht.out, Hbl.out] at htot
      refine ⟨rfl, ⟨mb, clock', m', fv, ⟨?_, setMap_same _ _ _ _ hlt4, .inl H.out.fs, .inl H.out.fm, ?_, ?_, ?_, HW.out, nodup_oput s b c H.out.nd⟩⟩, ((Hcl3.out.2).then_below h4).setMap (fun _ => H.out.fm) _ _⟩
      · refine (setMap_other _ _ _ _ _ hne).trans ((h4.block sb hs3).trans (Hcl3.out.1.trans ?_))
        have : (t : Int) + (n - z) = (osum List.length (oput s b c) : Nat) := by omega
        rw [this]
        rfl
      · exact (H.out.q.bound.keep fun k hk _ => hkk k hk.2 hk.1.2.1 hk.1.2.2).mono fun k hk => ⟨.inl hk.1.1, hk.1.2⟩
      · refine HH.out _ _ b ((H.out.e.bound.keep fun k hk _ => hkk k hk.2 hk.1.2.1 hk.1.2.2.1).mono fun k hk => ⟨.inl hk.1.1, hk.1.2⟩) ?_
        refine (hv4.keep (W' := World.setMap w4 mb m' clock') fun k hk _ => setMap_other _ _ _ _ _ ?_).mono fun k hk => ?_
        · have := hk.1
          rw [World.size_drew] at this
          omega
        · have h1 := hk.1
          have h2 := hk.2
          rw [World.size_drew] at h1
          refine ⟨.inr ⟨by omega, by omega⟩, by omega, by omega, fun he => ?_⟩
          have := (H.out.q.lt k he).2
          omega
      · intro y hy
        rcases mem_oput s b c y hy with h | h
        · exact H.out.len y h
        · rw [h, Hbl.out]; exact hn
end Go.Proofs.YtfjndjbpgcggkaaDoor
