/- Contract of the law's do: Add, Put. -/
import Derived.Test.YtngmipppgnlkdaaS9
set_option linter.unusedVariables false
set_option linter.unusedSimpArgs false
namespace Go.Proofs.Ytngmipppgnlkdaa
open Go.RowKit
attribute [local go_sem] Same.cell

section
variable (g1 g3 : Nat) (F1 F3 G : Foot) (s : LogS) (m : Nat) (w0 w : World) (a : LAct) (A3 : Option Addr) (c3 : Nat)
include g1 g3 F1 F3 G s m w0 w a A3 c3

set_option maxRecDepth 100000 in
set_option maxHeartbeats 4000000 in
theorem do_add (h : Pair w0 w F1 F3 g1 g3 s) (hI : s.Inv m) (hm : m ≤ 900) (ha : a.Small) (l3 : a.E.length ≤ c3) (r3 : RS kEntry w G A3 a.E.length a.E) (hG : ∀ k, G k → k < w0.heap.size) (hw : a.Way = 1) :
    Calls Try.prog 33 #[.pointer (some ⟨g1, 0, none⟩), .pointer (some ⟨g3, 0, none⟩), .agg #[.int .i64 a.Way, .int .i64 a.N, .int .i64 a.T, .slice A3 a.E.length c3]] w (DoPost w0 w F1 F3 g1 g3 m) := by
  have e0 : (a.Way == 0) = false := by rw [beq_eq_false_iff_ne]; omega
  have e1 : (a.Way == 1) = true := by rw [beq_iff_eq]; exact hw
  obtain ⟨ha1, _, _, ha4⟩ := ha
  have HA4 := Lib.hid ha4
  have HG := Lib.hid hG
  clear hw ha4 hG
  go_enter Try.func33, Try.ntmps33
  go_wp2_with fail
  have hb1 : Below w.heap.size w (w.alloc (.cells #[.int .i64 a.Way, .int .i64 a.N, .int .i64 a.T, .slice A3 a.E.length c3] 26)) := (Below.refl _ _).alloc (Nat.le_refl _) _
  have hbx : (w.alloc (.cells #[.int .i64 a.Way, .int .i64 a.N, .int .i64 a.T, .slice A3 a.E.length c3] 26)).heap[w.heap.size]? = some (.cells #[.int .i64 a.Way, .int .i64 a.N, .int .i64 a.T, .slice A3 a.E.length c3] 26 (0, 0)) := heap_alloc_new w _
  have hP1 := h.then hb1
  have hbF1 : ¬ F1 w.heap.size := fun hk => by have := h.i1 _ hk; omega
  have hbF3 : ¬ F3 w.heap.size := fun hk => by have := h.i3 _ hk; omega
  generalize w.alloc (.cells #[.int .i64 a.Way, .int .i64 a.N, .int .i64 a.T, .slice A3 a.E.length c3] 26) = w1 at hb1 hbx hP1 ⊢
  have hs1 := hb1.size
  go_loopw [16] (fun q wr => ∃ (k : Nat) (s' : LogS) (P1 P3 : Foot), q = .int .i64 k ∧ k ≤ a.E.length ∧ Pair w0 wr P1 P3 g1 g3 s' ∧ s'.Inv (m + k) ∧ Hid (wr.heap[w.heap.size]? = some (.cells #[.int .i64 a.Way, .int .i64 a.N, .int .i64 a.T, .slice A3 a.E.length c3] 26 (0, 0))) ∧ ¬ P1 w.heap.size ∧ ¬ P3 w.heap.size ∧
    Hid (∀ k, P1 k → F1 k ∨ w.heap.size ≤ k) ∧ Hid (∀ k, P3 k → F3 k ∨ w.heap.size ≤ k) ∧ Keeps (fun k => F1 k ∨ F3 k) w wr) (fun q _ => a.E.length - (intOf q).toNat)
  case atStart => exact ⟨0, s, F1, F3, rfl, Nat.zero_le _, hP1, hI.mono (by omega), hbx, hbF1, hbF3, fun _ hk => .inl hk, fun _ hk => .inl hk, Keeps.of_below hb1 _⟩
  case round =>
    obtain ⟨k, s', P1, P3, rfl, hk, hP, hI', hX, hX1, hX3, hQ1, hQ3, hK⟩ := hrel
    obtain ⟨q0, q1, q2, q3⟩ := box_LAct hX.out
    by_cases hlt : k < a.E.length
    · obtain ⟨x, hxk⟩ : ∃ x, a.E[k]? = some x := ⟨_, List.getElem?_eq_getElem hlt⟩
      have hxr := (HA4.out x (List.mem_of_getElem? hxk)).2
      have r3' : RS kEntry wr G A3 a.E.length a.E := r3.keep fun k hk _ => (hP.below.block k (HG.out k hk)).trans (h.below.block k (HG.out k hk)).symm
      obtain ⟨ad, A4, c4, hA0, hFa, k0, k1, k2, k3, k4, k5, k6, k7, k8, k9, k10, k11, k12, k13, l4, m4, r4⟩ := at_Entry r3' hxk
      have hgad := HG.out _ hFa
      subst hA0
      have Hxk := Lib.hid hxk
      clear hxk r3'
      obtain ⟨S, HS⟩ : ∃ S : Foot, Hid (∀ k, S k ↔ P1 k ∨ P3 k) := ⟨_, fun _ => Iff.rfl⟩
      have hSb : ¬ S w.heap.size := fun hk => ((HS.out _).1 hk).elim hX1 hX3
      have hSa : ¬ S (ad.add (k * 14)).block := fun hk => by
        rw [block_add] at hk
        rcases (HS.out _).1 hk with hk | hk
        · have := hP.o1 _ hk; omega
        · have := hP.o3 _ hk; omega
      have hal : (ad.add (k * 14)).block < wr.heap.size := by rw [block_add]; have := hP.below.size; omega
      have hbl : w.heap.size < wr.heap.size := (Array.getElem?_eq_some_iff.1 hX.out).1
      have hPd := hP.then (drawn_below wr 1)
      have ok := hI'.ok (by omega)
      have hl1 := hI'.l1
      obtain ⟨la, hla⟩ : ∃ la, Hid ((s'.add x).last = la) := ⟨_, rfl⟩
      have ela : (la != la) = false := by rw [bne_eq_false_iff_eq]
      go_wp2_with fail
      refine wp_region_plan [0, 0, 0, 0, 0, 0, 1, 0, 0, 0, 0, 0, 0, 1, 1] (fun w' => ∃ D : Same S wr, w' = D.world) (by kernel_rfl) (by kernel_rfl) InSame.start ?_
      simp only [sel, selE, Nat.reduceEqDiff, reduceIte]
      repeat (go_big_quiet_step (fail))
      refine wpQuiet_nil ?_
      refine wpE_cons (fun N hN => ?_)
      go_wp2_with fail
      refine (Add_any g1 P1 G s' x A4 c4 wr.drew hPd.n1 ok (by omega) l4 m4 r4.drew (by omega)).mono ?_
      rintro e w2 ⟨rfl, hN2, hK2⟩
      rw [hla.out]
      have hs2 := hK2.size
      rw [World.size_drew] at hs2
      have HC2 : Hid (∀ k, k < wr.heap.size → ¬ S k → w2.heap[k]? = wr.heap[k]?) := fun k hk hn => hK2.block k hk (fun h => hn ((HS.out k).2 (.inl h)))
      have r42 : RS kRecord w2 G A4 x.Cmd.Records.length x.Cmd.Records := r4.keep fun k hk _ => HC2.out k (by have := HG.out k hk; have := hP.below.size; omega) (fun hS => by
        rcases (HS.out _).1 hS with hk2 | hk2
        · have := hP.o1 _ hk2; have := HG.out k hk; omega
        · have := hP.o3 _ hk2; have := HG.out k hk; omega)
      go_wp2
      refine hN _ _ ⟨⟨w2, HC2.out⟩, rfl⟩ ?_
      clear hN N
      refine wpE_cons (fun N hN => ?_)
      go_wp2_with fail
      refine (RAdd_any g3 P3 G s' x A4 c4 w2 (hPd.n3.keeps hK2 hPd.a13.symm) ok (by omega) l4 m4 r42 (by omega)).mono ?_
      rintro e w3 ⟨rfl, hN3, hK3⟩
      rw [hla.out]
      have HC3 : Hid (∀ k, k < wr.heap.size → ¬ S k → w3.heap[k]? = wr.heap[k]?) := fun k hk hn => (hK3.block k (by omega) (fun h => hn ((HS.out k).2 (.inr h)))).trans (HC2.out k hk hn)
      go_wp2
      refine hN _ _ ⟨⟨w3, HC3.out⟩, rfl⟩ ?_
      clear hN N
      refine wpE_cons (fun N hN => ?_)
      go_wp2
      refine hN _ _ ⟨⟨w3, HC3.out⟩, rfl⟩ ?_
      refine wpE_nil ?_
      clear hN N
      have hP' := hPd.both hN2 hK2 hN3 hK3
      have hX' := Lib.hid ((HC3.out _ hbl hSb).trans hX.out)
      have hK' : Keeps (fun k => F1 k ∨ F3 k) w w3 := (((hK.trans (Keeps.of_below (drawn_below wr 1) _))).step hK2 fun k hk hlt => (hQ1.out k hk).elim .inl (fun h => by omega)).step hK3 fun k hk hlt => (hQ3.out k hk).elim .inr (fun h => by omega)
      have hY1 : ¬ Grow P1 wr.drew w2 w.heap.size := fun hk => by
        rcases hk with hk | hk
        · exact hX1 hk
        · have := hk.1; rw [World.size_drew] at this; omega
      have hY3 : ¬ Grow P3 w2 w3 w.heap.size := fun hk => by
        rcases hk with hk | hk
        · exact hX3 hk
        · omega
      have hZ1 : Hid (∀ k, Grow P1 wr.drew w2 k → F1 k ∨ w.heap.size ≤ k) := fun k hk => by
        rcases hk with hk | hk
        · exact hQ1.out k hk
        · have := hk.1; rw [World.size_drew] at this; exact .inr (by omega)
      have hZ3 : Hid (∀ k, Grow P3 w2 w3 k → F3 k ∨ w.heap.size ≤ k) := fun k hk => by
        rcases hk with hk | hk
        · exact hQ3.out k hk
        · exact .inr (by omega)
      have hIn := hI'.add (x := x) hxr
      clear hN2 hK2 hN3 hK3 HC2 HC3 hPd
      go_wp2
      go_roundw
      case rel => exact ⟨k + 1, s'.add x, _, _, by go_num, by omega, hP', hIn.mono (by omega), hX', hY1, hY3, hZ1, hZ3, hK'⟩
      case measure => simp [intOf]; omega
    · obtain rfl : k = a.E.length := by omega
      go_wp2
      go_ret
      exact ⟨rfl, P1, P3, s', hP, hI'.mono (by omega), hQ1.out, hQ3.out, hK⟩

set_option maxRecDepth 100000 in
set_option maxHeartbeats 8000000 in
theorem do_put (h : Pair w0 w F1 F3 g1 g3 s) (hI : s.Inv m) (hm : m ≤ 900) (ha : a.Small) (l3 : a.E.length ≤ c3) (r3 : RS kEntry w G A3 a.E.length a.E) (hG : ∀ k, G k → k < w0.heap.size) (hw : a.Way = 0) :
    Calls Try.prog 33 #[.pointer (some ⟨g1, 0, none⟩), .pointer (some ⟨g3, 0, none⟩), .agg #[.int .i64 a.Way, .int .i64 a.N, .int .i64 a.T, .slice A3 a.E.length c3]] w (DoPost w0 w F1 F3 g1 g3 m) := by
  have e0 : (a.Way == 0) = true := by rw [beq_iff_eq]; exact hw
  obtain ⟨ha1, _, _, ha4⟩ := ha
  have hInv := hI.put a.N a.T a.E (fun x hx => (ha4 x hx).2)
  have HA4 := Lib.hid ha4
  have HG := Lib.hid hG
  have ok := hI.ok (by omega)
  clear hw ha4 hG
  obtain ⟨r, hr⟩ : ∃ r, Hid (s.Put a.N a.T a.E = r) := ⟨_, rfl⟩
  rw [hr.out] at hInv
  obtain ⟨⟨x, y, o⟩, s'⟩ := r
  have hInv : s'.Inv (m + a.E.length) := hInv
  have ex : (x == x) = true := by rw [beq_iff_eq]
  have ey : (y == y) = true := by rw [beq_iff_eq]
  have eo : (o == o) = true := by rw [beq_iff_eq]
  go_enter Try.func33, Try.ntmps33
  go_wp2_with fail
  have hb1 : Below w.heap.size w (w.alloc (.cells #[.int .i64 a.Way, .int .i64 a.N, .int .i64 a.T, .slice A3 a.E.length c3] 26)) := (Below.refl _ _).alloc (Nat.le_refl _) _
  have hbx : (w.alloc (.cells #[.int .i64 a.Way, .int .i64 a.N, .int .i64 a.T, .slice A3 a.E.length c3] 26)).heap[w.heap.size]? = some (.cells #[.int .i64 a.Way, .int .i64 a.N, .int .i64 a.T, .slice A3 a.E.length c3] 26 (0, 0)) := heap_alloc_new w _
  have hs1 : (w.alloc (.cells #[.int .i64 a.Way, .int .i64 a.N, .int .i64 a.T, .slice A3 a.E.length c3] 26)).heap.size = w.heap.size + 1 := by simp
  have hbF1 : ¬ F1 w.heap.size := fun hk => by have := h.i1 _ hk; omega
  generalize w.alloc (.cells #[.int .i64 a.Way, .int .i64 a.N, .int .i64 a.T, .slice A3 a.E.length c3] 26) = w1 at hb1 hbx hs1 ⊢
  refine (CopyEntries_own A3 _ c3 w1 G a.E (r3.below hb1) (by omega) (fun x hx => by have := (HA4.out x hx).2; omega)).mono ?_
  rintro e w2 ⟨v, rfl, hM⟩
  obtain ⟨A7, c7, rfl, hd1, hd2, hr7⟩ := hM.own.reads
  have hE := hM.own
  have hb12 := hM.below
  have hb2 : Below w.heap.size w w2 := hb1.trans (hb12.mono hb1.size)
  clear hM
  have hs2 := hb12.size
  have hbx2 := (hb12.block w.heap.size (by omega)).trans hbx
  obtain ⟨q0, q1, q2, q3⟩ := box_LAct hbx2
  clear hbx
  go_wp2_with fail
  have hcall := Put_any g1 F1 (New w1 w2) s w2 a.N a.T A7 a.E.length c7 a.E (h.n1.below hb2) ok hr7.plainO (by omega) hd1 (fun x hx => by have := (HA4.out x hx).2; omega)
  rw [hr.out] at hcall
  refine hcall.mono ?_
  clear hcall
  rintro e w3 ⟨rfl, hN3, hK3⟩
  dsimp only at hN3 ⊢
  clear q0 q1 q2 q3
  have hs3 := hK3.size
  have hbx3 := (hK3.block w.heap.size (by omega) hbF1).trans hbx2
  have hF12 : ∀ k, F1 k → k < w.heap.size := h.i1
  have hE3 : OwnS kEntryO 38 w3 (New w1 w2) (.slice A7 a.E.length c7) a.E := hE.keeps hK3 (fun k hk hf => by have := hk.1; have := hF12 k hf; omega)
  obtain ⟨R, hR⟩ : ∃ R : Nat → Nat, Hid (0 < a.E.length → ∃ ge, A7 = some ⟨ge, 0, none⟩ ∧ SoftAt w3 (New w1 w2) ge a.E.length R) := ⟨_, fun h0 => SoftAt.of hE3 h0⟩
  have HF12 := Lib.hid hF12
  clear hE hE3 hr7 hbx2 hF12
  go_wp2_with fail
  go_loopw [11] (fun q wr => ∃ i : Nat, q = .int .i64 i ∧ i ≤ a.E.length ∧ Keeps (New w1 w2) w3 wr ∧ Hid (0 < a.E.length → ∃ ge, A7 = some ⟨ge, 0, none⟩ ∧ SoftAt wr (New w1 w2) ge a.E.length R)) (fun q _ => a.E.length - (intOf q).toNat)
  case atStart => exact ⟨0, rfl, Nat.zero_le _, Keeps.refl _ _, hR⟩
  case round =>
    obtain ⟨i, rfl, hi, hK, hS⟩ := hrel
    by_cases hlt : i < a.E.length
    · obtain ⟨ge, hA7, hS0⟩ := hS.out (by omega)
      subst hA7
      obtain ⟨hge, hFe, ⟨t, ht⟩, hft, A4, c4, hc4, hl4, hm4, hkk⟩ := hS0.at_ hlt
      clear hc4 hkk
      go_wp2_with fail
      go_loopw [12] (fun q wq => ∃ p : Nat, q = .int .i64 p ∧ p ≤ R i ∧ Keeps (New w1 w2) w3 wq ∧ Hid (SoftAt wq (New w1 w2) ge a.E.length R)) (fun q _ => R i - (intOf q).toNat)
      case atStart => exact ⟨0, rfl, Nat.zero_le _, hK.setCell (p := ⟨ge, _, none⟩) (fun _ => hFe) _, hS0.term _⟩
      case round =>
        obtain ⟨p, rfl, hp, hKq, hSq⟩ := hrel
        obtain ⟨hge2, hFe2, ⟨t2, ht2⟩, hft2, A4', c4', hc4, hl4', hm4', hkk⟩ := hSq.out.at_ hlt
        have Hkk := Lib.hid hkk
        clear hkk ht2 hft2
        by_cases hpl : p < R i
        · obtain ⟨gi, u, hA4, hne, hFi, hgi, hcell, hfr⟩ := Hkk.out p hpl
          subst hA4
          go_wp2_with fail
          go_roundw
          case rel => exact ⟨p + 1, by go_num, by omega, hKq.setCell (p := ⟨gi, _, none⟩) (fun _ => hFi) _, hSq.out.key hne _ _⟩
          case measure => simp [intOf]; omega
        · obtain ⟨ri, hri⟩ : ∃ ri, R i = ri := ⟨_, rfl⟩
          rw [hri] at hc4 hp hpl
          obtain rfl : p = ri := by omega
          have Hri := Lib.hid hri
          clear hri
          go_wp2
          go_roundw
          case rel => exact ⟨i + 1, by go_num, by omega, hKq, fun _ => ⟨ge, rfl, hSq.out⟩⟩
          case measure => simp [intOf]; omega
    · obtain rfl : i = a.E.length := by omega
      have hsr := hK.size
      have hbx4 := (hK.block w.heap.size (by omega) (fun hk => by have := hk.1; omega)).trans hbx3
      obtain ⟨q0, q1, q2, q3⟩ := box_LAct hbx4
      have hKw : Keeps F1 w wr := ((Keeps.of_below hb2 F1).trans hK3).step hK fun k hk hlt2 => by have := hk.1; omega
      have hn1 : LogAt wr g1 (Grow F1 w wr) s' := (hN3.keeps hK (fun k hk hk2 => by
        rcases hk with hk | hk
        · have := HF12.out k hk; have := hk2.1; omega
        · have := hk2.2; omega)).mono fun k hk => by
          rcases hk with hk | hk
          · exact .inl hk
          · exact .inr ⟨by omega, by omega⟩
      have r34 : RS kEntry wr G A3 a.E.length a.E := r3.keeps hKw fun k hk hf => by have := HG.out k hk; have := h.o1 k hf; omega
      clear hN3 hR hS hbx3 hbx4
      go_wp2_with fail
      have hcall := RPut_any g3 F3 G s wr a.N a.T A3 a.E.length c3 a.E (h.n3.keeps hKw h.a13.symm) ok r34 (by omega) l3 (fun x hx => by have := (HA4.out x hx).2; omega)
      rw [hr.out] at hcall
      refine hcall.mono ?_
      clear hcall
      rintro e w5 ⟨rfl, hN5, hK5⟩
      dsimp only at hN5 ⊢
      go_wp2
      go_ret
      exact DoPost.mk (Below.refl _ _) h hn1 hKw hN5 hK5 (hInv.mono (by omega))
end
end Go.Proofs.Ytngmipppgnlkdaa
