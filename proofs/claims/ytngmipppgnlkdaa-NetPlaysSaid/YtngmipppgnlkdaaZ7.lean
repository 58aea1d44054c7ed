/- Contracts of the document's Net: Drop, Twice; SameMessage, SameMessages of one. -/
import Derived.Test.YtngmipppgnlkdaaZ6
import Derived.Test.YtngmipppgnlkdaaH
import Derived.Laws.BytesArg
set_option linter.unusedVariables false
set_option linter.unusedSimpArgs false
namespace Go.Proofs.Ytngmipppgnlkdaa
open Go.RowKit
attribute [local go_sem] Same.cell

theorem RefDrop_none (g : Nat) (F : Foot) (w : World) (i : Int) (h : RefAt w g F []) :
    Calls Try.prog 30 #[.pointer (some ⟨g, 0, none⟩), .int .i64 i] w fun e w' => e = .returned (.bool false) ∧ Below w.heap.size w w' := by
  go_enter Try.func30, Try.ntmps30
  go_wp2_with fail
  refine (RefTake_none g F w i h).mono ?_
  rintro e w1 ⟨rfl, hb⟩
  go_wp2_with fail
  go_ret
  exact ⟨rfl, hb.alloc hb.size _⟩

theorem RefDrop_any (g : Nat) (F : Foot) (l : List Message) (w : World) (i : Int) (h : RefAt w g F l) (hn : l.length ≤ 1000000000) (h0 : 0 < l.length) :
    Calls Try.prog 30 #[.pointer (some ⟨g, 0, none⟩), .int .i64 i] w fun e w' => e = .returned (.bool true) ∧ RefAt w' g (Grow F w w') (l.eraseIdx (netIx i l.length)) ∧ Keeps F w w' := by
  obtain ⟨m, hm⟩ : ∃ m, l[netIx i l.length]? = some m := ⟨_, List.getElem?_eq_getElem (netIx_lt i _ h0)⟩
  go_enter Try.func30, Try.ntmps30
  go_wp2_with fail
  refine (RefTake_any g F l w i h hn hm).mono ?_
  rintro e w1 ⟨A6, c6, A10, c10, rfl, hN, hM, hK⟩
  go_wp2_with fail
  go_ret
  refine ⟨rfl, (hN.below ((Below.refl _ _).alloc (Nat.le_refl _) _)).mono fun k hk => ?_, hK.alloc _⟩
  rcases hk with hk | hk
  · exact .inl hk
  · exact .inr ⟨hk.1, by have := hk.2; simp; omega⟩

theorem RefTwice_none (g : Nat) (F : Foot) (w : World) (i : Int) (h : RefAt w g F []) :
    Calls Try.prog 31 #[.pointer (some ⟨g, 0, none⟩), .int .i64 i] w fun e w' => e = .returned (.bool false) ∧ w' = w := by
  go_enter Try.func31, Try.ntmps31
  go_wp2_with fail
  refine (rat_none g F w i h).mono ?_
  rintro e w1 ⟨rfl, rfl⟩
  go_wp2_with fail
  go_ret
  exact ⟨rfl, rfl⟩

set_option maxHeartbeats 1000000 in
theorem RefTwice_any (g : Nat) (F : Foot) (l : List Message) (w : World) (i : Int) (h : RefAt w g F l) (hn : l.length ≤ 10000) (hf : ∀ m ∈ l, m.Fits) {m : Message} (hm : l[netIx i l.length]? = some m) :
    Calls Try.prog 31 #[.pointer (some ⟨g, 0, none⟩), .int .i64 i] w fun e w' => e = .returned (.bool true) ∧ RefAt w' g (Grow F w w') (netAdd l [m]) ∧ Keeps F w w' := by
  obtain ⟨k, hk⟩ : ∃ k, Hid (netIx i l.length = k) := ⟨_, rfl⟩
  rw [hk.out] at hm
  have hkl : k < l.length := (List.getElem?_eq_some_iff.1 hm).1
  have hmf := hf m (List.mem_of_getElem? hm)
  obtain ⟨A, c, hg0, hg1, hgf, hF, hlt, ho, hc1, hc2, hr⟩ := h.cells
  obtain ⟨ad, A6, c6, A10, c10, hA0, hFa, k0, k1, k2, k3, k4, k5, k6, k7, k8, k9, k10, l6, m6, r6, l10, m10, r10⟩ := at_Message hr.bound hm
  subst hA0
  clear hg0 ho hr hm
  go_enter Try.func31, Try.ntmps31
  go_wp2_with fail
  refine (rat_any g F l w i h (by omega) (by omega)).mono ?_
  rintro e w1 ⟨rfl, rfl⟩
  rw [hk.out]
  go_wp2_with fail
  have hb2 : Below w1.heap.size w1 (w1.alloc (.cells #[.int .i64 m.Kind, .int .i64 m.From, .int .i64 m.To, .int .i64 m.Term, .int .i64 m.Last, .int .i64 m.LastTerm, .slice A6 m.Entries.length c6, .int .i64 m.Commit, .bool m.OK, .int .i64 m.Match, .slice A10 m.Data.length c10] 54)) := (Below.refl _ _).alloc (Nat.le_refl _) _
  have hr2 : RS kMessage (w1.alloc (.cells #[.int .i64 m.Kind, .int .i64 m.From, .int .i64 m.To, .int .i64 m.Term, .int .i64 m.Last, .int .i64 m.LastTerm, .slice A6 m.Entries.length c6, .int .i64 m.Commit, .bool m.OK, .int .i64 m.Match, .slice A10 m.Data.length c10] 54)) (fun k => (F k ∧ k < w1.heap.size) ∨ k = w1.heap.size) (some ⟨w1.heap.size, 0, none⟩) 1 [m] :=
    (RS.lit w1 (F := fun k => F k ∧ k < w1.heap.size) (xs := [m]) (Elems.single (K := kMessage) ⟨A6, c6, A10, c10, rfl, l6, m6, r6.mono fun k hk => ⟨hk.1.1, hk.2⟩, l10, m10, r10.mono fun k hk => ⟨hk.1.1, hk.2⟩⟩))
  have hs2 : (w1.alloc (.cells #[.int .i64 m.Kind, .int .i64 m.From, .int .i64 m.To, .int .i64 m.Term, .int .i64 m.Last, .int .i64 m.LastTerm, .slice A6 m.Entries.length c6, .int .i64 m.Commit, .bool m.OK, .int .i64 m.Match, .slice A10 m.Data.length c10] 54)).heap.size = w1.heap.size + 1 := by simp
  generalize w1.alloc (.cells #[.int .i64 m.Kind, .int .i64 m.From, .int .i64 m.To, .int .i64 m.Term, .int .i64 m.Last, .int .i64 m.LastTerm, .slice A6 m.Entries.length c6, .int .i64 m.Commit, .bool m.OK, .int .i64 m.Match, .slice A10 m.Data.length c10] 54) = w2 at hb2 hr2 hs2 ⊢
  refine (RefAdd_any g (fun k => F k ∧ k < w1.heap.size) _ l _ _ [m] w2 (h.bound.below hb2) hn hr2 (by simp) (fun x hx => by simp at hx; subst hx; exact hmf) (.inl (by simp)) (fun _ ad ha hk => by injection ha with ha; subst ha; exact absurd hk.2 (by simp)) (fun j hj => by rcases hj with hj | hj <;> omega)).mono ?_
  rintro e w3 ⟨rfl, hN, hK⟩
  have hs3 := hK.size
  go_wp2_with fail
  go_ret
  refine ⟨rfl, hN.mono fun k hk => ?_, (Keeps.of_below hb2 F).step hK fun k hk _ => hk.1⟩
  rcases hk with hk | hk
  · exact .inl hk.1
  · exact .inr ⟨by omega, hk.2⟩

theorem RS.str {P : Program} {W : World} {F : Foot} {A : Option Addr} {n : Nat} {xs : List Int} (h : RS (kInt .u8) W F A n xs) (src dst e c : Nat) (hs : P.underlying src = some (.slice e)) (he : P.underlying e = some (.int .u8)) (hd : P.underlying dst = some .string) :
    (convert src dst (.slice A n c)).run P W = .ok (.string (strOfNums xs)) W := by
  cases A with
  | none =>
    have h0 : n = 0 := by
      rcases Nat.eq_zero_or_pos n with h0 | h0
      · exact h0
      · obtain ⟨ad, h, _⟩ := h.lt h0
        cases h
    subst h0
    obtain rfl : xs = [] := List.eq_nil_of_length_eq_zero h.1
    exact run_convert_bytes_nil W src e hs he 0 c dst hd
  | some ad =>
    have hl : (loadCells ad n).run P W = .ok (xs.map (Value.int .u8)).toArray W := by
      have := run_loadCells_list (P := P) W ad (xs.map (Value.int .u8)) (fun j v hj => by
        rw [List.getElem?_map] at hj
        obtain ⟨x, hx, rfl⟩ := Option.map_eq_some_iff.1 hj
        obtain ⟨ad', hA0, hFa, k0⟩ := at_int h hx
        injection hA0 with hA0
        subst hA0
        exact k0)
      simpa [h.1] using this
    rw [run_convert_bytes_string W src dst e _ n c hs he hd, run_bytesToString W _ n c xs hl, foldl_push_bytes]
    simp [strOfNums, ByteArray.empty, ByteArray.emptyWithCapacity]
    rfl

set_option maxHeartbeats 2000000 in
theorem SameMessage_eq (m : Message) (pA6 : Option Addr) (pc6 : Nat) (pA10 : Option Addr) (pc10 : Nat) (qA6 : Option Addr) (qc6 : Nat) (qA10 : Option Addr) (qc10 : Nat) (w : World) (F G : Foot) (hp : MsgAt w F m pA6 pc6 pA10 pc10) (hq : MsgAt w G m qA6 qc6 qA10 qc10) (hf : m.Fits) :
    Calls Try.prog 46 #[.agg #[.int .i64 m.Kind, .int .i64 m.From, .int .i64 m.To, .int .i64 m.Term, .int .i64 m.Last, .int .i64 m.LastTerm, .slice pA6 m.Entries.length pc6, .int .i64 m.Commit, .bool m.OK, .int .i64 m.Match, .slice pA10 m.Data.length pc10], .agg #[.int .i64 m.Kind, .int .i64 m.From, .int .i64 m.To, .int .i64 m.Term, .int .i64 m.Last, .int .i64 m.LastTerm, .slice qA6 m.Entries.length qc6, .int .i64 m.Commit, .bool m.OK, .int .i64 m.Match, .slice qA10 m.Data.length qc10]] w fun e w' => e = .returned (.bool true) ∧ Below w.heap.size w w' := by
  obtain ⟨hf6, hf10, hfr⟩ := hf
  go_enter Try.func46, Try.ntmps46
  go_wp2_with fail
  have hb2 : Below w.heap.size w ((w.alloc (.cells #[.int .i64 m.Kind, .int .i64 m.From, .int .i64 m.To, .int .i64 m.Term, .int .i64 m.Last, .int .i64 m.LastTerm, .slice pA6 m.Entries.length pc6, .int .i64 m.Commit, .bool m.OK, .int .i64 m.Match, .slice pA10 m.Data.length pc10] 54)).alloc (.cells #[.int .i64 m.Kind, .int .i64 m.From, .int .i64 m.To, .int .i64 m.Term, .int .i64 m.Last, .int .i64 m.LastTerm, .slice qA6 m.Entries.length qc6, .int .i64 m.Commit, .bool m.OK, .int .i64 m.Match, .slice qA10 m.Data.length qc10] 54)) := ((Below.refl _ _).alloc (Nat.le_refl _) _).alloc (by simp) _
  have hbx : ((w.alloc (.cells #[.int .i64 m.Kind, .int .i64 m.From, .int .i64 m.To, .int .i64 m.Term, .int .i64 m.Last, .int .i64 m.LastTerm, .slice pA6 m.Entries.length pc6, .int .i64 m.Commit, .bool m.OK, .int .i64 m.Match, .slice pA10 m.Data.length pc10] 54)).alloc (.cells #[.int .i64 m.Kind, .int .i64 m.From, .int .i64 m.To, .int .i64 m.Term, .int .i64 m.Last, .int .i64 m.LastTerm, .slice qA6 m.Entries.length qc6, .int .i64 m.Commit, .bool m.OK, .int .i64 m.Match, .slice qA10 m.Data.length qc10] 54)).heap[w.heap.size]? = some (.cells #[.int .i64 m.Kind, .int .i64 m.From, .int .i64 m.To, .int .i64 m.Term, .int .i64 m.Last, .int .i64 m.LastTerm, .slice pA6 m.Entries.length pc6, .int .i64 m.Commit, .bool m.OK, .int .i64 m.Match, .slice pA10 m.Data.length pc10] 54 (0, 0)) := (Below.heap_alloc _ _ _ (by simp)).trans (heap_alloc_new w _)
  have hbz : ((w.alloc (.cells #[.int .i64 m.Kind, .int .i64 m.From, .int .i64 m.To, .int .i64 m.Term, .int .i64 m.Last, .int .i64 m.LastTerm, .slice pA6 m.Entries.length pc6, .int .i64 m.Commit, .bool m.OK, .int .i64 m.Match, .slice pA10 m.Data.length pc10] 54)).alloc (.cells #[.int .i64 m.Kind, .int .i64 m.From, .int .i64 m.To, .int .i64 m.Term, .int .i64 m.Last, .int .i64 m.LastTerm, .slice qA6 m.Entries.length qc6, .int .i64 m.Commit, .bool m.OK, .int .i64 m.Match, .slice qA10 m.Data.length qc10] 54)).heap[w.heap.size + 1]? = some (.cells #[.int .i64 m.Kind, .int .i64 m.From, .int .i64 m.To, .int .i64 m.Term, .int .i64 m.Last, .int .i64 m.LastTerm, .slice qA6 m.Entries.length qc6, .int .i64 m.Commit, .bool m.OK, .int .i64 m.Match, .slice qA10 m.Data.length qc10] 54 (0, 0)) := by have := heap_alloc_new (w.alloc (.cells #[.int .i64 m.Kind, .int .i64 m.From, .int .i64 m.To, .int .i64 m.Term, .int .i64 m.Last, .int .i64 m.LastTerm, .slice pA6 m.Entries.length pc6, .int .i64 m.Commit, .bool m.OK, .int .i64 m.Match, .slice pA10 m.Data.length pc10] 54)) (.cells #[.int .i64 m.Kind, .int .i64 m.From, .int .i64 m.To, .int .i64 m.Term, .int .i64 m.Last, .int .i64 m.LastTerm, .slice qA6 m.Entries.length qc6, .int .i64 m.Commit, .bool m.OK, .int .i64 m.Match, .slice qA10 m.Data.length qc10] 54); simpa using this
  have hs2 : w.heap.size + 1 < ((w.alloc (.cells #[.int .i64 m.Kind, .int .i64 m.From, .int .i64 m.To, .int .i64 m.Term, .int .i64 m.Last, .int .i64 m.LastTerm, .slice pA6 m.Entries.length pc6, .int .i64 m.Commit, .bool m.OK, .int .i64 m.Match, .slice pA10 m.Data.length pc10] 54)).alloc (.cells #[.int .i64 m.Kind, .int .i64 m.From, .int .i64 m.To, .int .i64 m.Term, .int .i64 m.Last, .int .i64 m.LastTerm, .slice qA6 m.Entries.length qc6, .int .i64 m.Commit, .bool m.OK, .int .i64 m.Match, .slice qA10 m.Data.length qc10] 54)).heap.size := by simp
  generalize (w.alloc (.cells #[.int .i64 m.Kind, .int .i64 m.From, .int .i64 m.To, .int .i64 m.Term, .int .i64 m.Last, .int .i64 m.LastTerm, .slice pA6 m.Entries.length pc6, .int .i64 m.Commit, .bool m.OK, .int .i64 m.Match, .slice pA10 m.Data.length pc10] 54)).alloc (.cells #[.int .i64 m.Kind, .int .i64 m.From, .int .i64 m.To, .int .i64 m.Term, .int .i64 m.Last, .int .i64 m.LastTerm, .slice qA6 m.Entries.length qc6, .int .i64 m.Commit, .bool m.OK, .int .i64 m.Match, .slice qA10 m.Data.length qc10] 54) = w2 at hb2 hbx hbz hs2 ⊢
  refine (SameEntries_any _ _ _ _ _ _ _ _ _ _ _ (hp.r6.below hb2) (hq.r6.below hb2) (by omega) (by omega) (fun y hy => by have := hfr y hy; omega) (fun y hy => by have := hfr y hy; omega)).mono ?_
  rintro e w3 ⟨r, rfl, hr, hb3⟩
  obtain rfl : r = true := hr.2 rfl
  have hbx3 := (hb3.block w.heap.size (by omega)).trans hbx
  have hbz3 := (hb3.block (w.heap.size + 1) (by omega)).trans hbz
  obtain ⟨yc0, yc1, yc2, yc3, yc4, yc5, yc6, yc7, yc8, yc9, yc10, yf0, yf1, yf2, yf3, yf4, yf5, yf6, yf7, yf8, yf9, yf10⟩ := box11 hbx3
  obtain ⟨xc0, xc1, xc2, xc3, xc4, xc5, xc6, xc7, xc8, xc9, xc10, xf0, xf1, xf2, xf3, xf4, xf5, xf6, xf7, xf8, xf9, xf10⟩ := box11 hbz3
  clear hbx hbz hbx3 hbz3
  go_wp2
  go_ret
  exact ⟨rfl, hb2.trans (hb3.mono hb2.size)⟩

set_option maxHeartbeats 4000000 in
theorem SameMessages_eq (A B : Option Addr) (n c d : Nat) (xs : List Message) (F G : Foot) (w : World) (hx : RS kMessage w F A n xs) (hy : RS kMessage w G B n xs) (hn : n ≤ 140737488355328) (hf : ∀ m ∈ xs, m.Fits) :
    Calls Try.prog 29 #[.slice A n c, .slice B n d, .bool false] w fun e w' => e = .returned (.bool true) ∧ Below w.heap.size w w' := by
  obtain rfl := hx.length
  go_enter Try.func29, Try.ntmps29
  have hlb : ((xs.length : Int) != (xs.length : Int)) = false := by rw [bne_eq_false_iff_eq]
  go_wp2
  go_loopw [7] (fun q wr => ∃ k : Nat, q = .int .i64 k ∧ k ≤ xs.length ∧ Below w.heap.size w wr) (fun q _ => xs.length - (intOf q).toNat)
  case atStart => exact ⟨0, rfl, Nat.zero_le _, Below.refl _ _⟩
  case round =>
    obtain ⟨k, rfl, hk, hB⟩ := hrel
    by_cases hlt : k < xs.length
    · obtain ⟨m, hm⟩ : ∃ m, xs[k]? = some m := ⟨_, List.getElem?_eq_getElem hlt⟩
      have hmf := hf m (List.mem_of_getElem? hm)
      obtain ⟨ad, pA6, pc6, pA10, pc10, hA0, hFa, k0, k1, k2, k3, k4, k5, k6, k7, k8, k9, k10, pl6, pm6, pr6, pl10, pm10, pr10⟩ := at_Message (hx.below hB) hm
      obtain ⟨bd, qA6, qc6, qA10, qc10, hB0, hFb, l0, l1, l2, l3, l4, l5, l6, l7, l8, l9, l10, ql6, qm6, qr6, ql10, qm10, qr10⟩ := at_Message (hy.below hB) hm
      have HA0 := Lib.hid (And.intro hA0 (And.intro hB0 hm))
      rw [hA0, hB0]
      clear hA0 hB0 hm
      have had : (ad.add (k * 11)).block < wr.heap.size := World.block_lt_of_cell? wr _ k0
      have hbd : (bd.add (k * 11)).block < wr.heap.size := World.block_lt_of_cell? wr _ l0
      have hN1 : ¬ NoF (ad.add (k * 11)).block := id
      have hN2 : ¬ NoF (bd.add (k * 11)).block := id
      have cv1 : ∀ D : Same NoF wr, (convert 52 9 (.slice pA10 m.Data.length pc10)).run Try.prog D.world = .ok (.string (strOfNums m.Data)) D.world := fun D =>
        (pr10.keep fun k _ hl => D.block k hl id).str 52 9 5 pc10 Try.underlying52 Try.underlying5 Try.underlying9
      have cv2 : ∀ D : Same NoF wr, (convert 52 9 (.slice qA10 m.Data.length qc10)).run Try.prog D.world = .ok (.string (strOfNums m.Data)) D.world := fun D =>
        (qr10.keep fun k _ hl => D.block k hl id).str 52 9 5 qc10 Try.underlying52 Try.underlying5 Try.underlying9
      go_wp2_with fail
      refine wp_region_plan [0, 0, 0, 0, 0, 0, 0, 0, 1, 3, 3, 3, 3, 3, 3, 3, 3, 3, 3, 3, 3, 3, 3, 3, 3, 3, 3, 3, 3] (fun w' => ∃ D : Same NoF wr, w' = D.world) (by kernel_rfl) (by kernel_rfl) InSame.start ?_
      simp only [sel, selE, Nat.reduceEqDiff, reduceIte]
      repeat (go_big_quiet_step (fail))
      refine wpQuiet_nil ?_
      refine wpE_cons (fun N hN => ?_)
      go_wp2_with fail
      refine (SameMessage_eq m _ _ _ _ _ _ _ _ _ _ _ ⟨pl6, pm6, pr6.drew, pl10, pm10, pr10.drew⟩ ⟨ql6, qm6, qr6.drew, ql10, qm10, qr10.drew⟩ hmf).mono ?_
      rintro e w2 ⟨rfl, hb⟩
      have hb2 : Below w.heap.size w w2 := hB.trans ((below_undrew hb).mono hB.size)
      have hC : ∃ D : Same NoF wr, w2 = D.world := InSame.of_below (below_undrew hb)
      go_wp2
      refine hN _ _ hC ?_
      clear hN N
      repeat (refine wpE_take (fun N hN => ?_); go_big_quiet_step (fail); refine wpQuiet_nil ?_; refine hN _ ?_; clear hN N)
      refine wpE_nil ?_
      go_wp2
      go_roundw
      case rel => exact ⟨k + 1, by go_num, by omega, hb2⟩
      case measure => simp [intOf]; omega
    · obtain rfl : k = xs.length := by omega
      go_wp2
      go_ret
      exact ⟨rfl, hB⟩
end Go.Proofs.Ytngmipppgnlkdaa
