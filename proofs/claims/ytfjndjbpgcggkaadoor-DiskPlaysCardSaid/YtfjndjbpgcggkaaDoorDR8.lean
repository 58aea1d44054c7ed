/- The document's own disk: List, Remove. -/
import Derived.Test.YtfjndjbpgcggkaaDoorDR7
import Derived.Test.YtfjndjbpgcggkaaDoorDK8
set_option linter.unusedVariables false
set_option linter.unusedSimpArgs false
namespace Go.Proofs.YtfjndjbpgcggkaaDoor
open Go.RowKit
attribute [local go_sem] Same.cell

set_option maxHeartbeats 4000000 in
set_option maxRecDepth 100000 in
theorem rlist_any (rb : Nat) (w : World) (F : Foot) (room : Int) (l : List RFile) (A : Option Addr) (c : Nat) (h : RefAt w F rb room l A c) (hn : l.length ≤ 1000000000) :
    Calls Tryd.prog 95 #[.pointer (some ⟨rb, 0, none⟩)] w fun e w' => ∃ v, e = .returned v ∧ Made kString 9 w w' (New w w') v (l.map RFile.name) := by
  have hrlt : rb < w.heap.size := (Array.getElem?_eq_some_iff.1 h.cells).1
  have H := Lib.hid h
  clear h
  go_enter Tryd.func95, Tryd.ntmps95
  go_wp2
  go_loopw [3, 4] (fun v q wr => ∃ (i : Nat) (A1 : Option Addr) (cp : Nat), i ≤ l.length ∧ q = .int .i64 i ∧ v = .slice A1 i cp ∧ Hid (OwnS kString 9 wr (New w wr) (.slice A1 i cp) ((l.take i).map RFile.name) ∧ Below w.heap.size w wr)) (fun _ q _ => l.length - (intOf q).toNat)
  case atStart => exact ⟨0, none, 0, Nat.zero_le _, rfl, rfl, OwnS.nil, Below.refl _ _⟩
  case round =>
    obtain ⟨i, A1, cp, hi, rfl, rfl, hO⟩ := hrel
    have hr := H.out.below hO.out.2
    have c1 : wr.cell? ⟨rb, 1, none⟩ = some (.slice A l.length c) := cell_of_row wr rb 1 _ _ _ hr.cells
    by_cases hlt : i < l.length
    · obtain ⟨x, hx⟩ : ∃ x, l[i]? = some x := ⟨_, List.getElem?_eq_getElem hlt⟩
      obtain ⟨A', c', hvv, hc, hm, hrd⟩ := hr.own.reads
      obtain ⟨rfl, rfl⟩ : A = A' ∧ c = c' := by injection hvv with h1 _ h2; exact ⟨h1, h2⟩
      obtain ⟨ad, A2, cp2, hA0, hFa, k0, k1, k2, l2, m2, r2⟩ := at_RFile hrd hx
      subst hA0
      have hr2 : RS kString (wr.alloc (.cells #[Value.string x.name] 9)) (fun k => k = wr.heap.size) (some ⟨wr.heap.size, 0, none⟩) 1 [x.name] :=
        (RS.lit (K := kString) (F := NoF) wr (xs := [x.name]) (cs := #[Value.string x.name]) (Elems.single (K := kString) (W := wr) (F := NoF) (x := x.name) (cs := [Value.string x.name]) rfl)).mono fun k hk => hk.resolve_left id
      have hO3 := hO.out.1.below ((Below.refl wr.heap.size wr).alloc (Nat.le_refl _) (.cells #[Value.string x.name] 9))
      have hlen : ((l.take i).map RFile.name).length = i := by rw [List.length_map, List.length_take]; omega
      have htk : (l.take (i + 1)).map RFile.name = (l.take i).map RFile.name ++ [x.name] := by
        rw [List.take_add_one, hx, List.map_append]; rfl
      have HT := Lib.hid (And.intro htk hlen)
      generalize (l.take i).map RFile.name = xs at hO3 HT
      clear hvv hr hrd r2 hx k1 k2 htk hlen
      go_wp2_with (first
        | (at_builtin
           refine wpList_append_S rfl tStrings (.tmp 14) (.tmp 23) rfl (K := kString) rfl rfl hO3 hr2 ?_ ?_ ?_ ?_))
      · intro j hj hj2
        have h1 : j < wr.heap.size := (hO.out.1.lt j hj).2
        have h2 : j = wr.heap.size := hj2
        omega
      · have := HT.out.2; omega
      · have := HT.out.2; omega
      intro v4 w4 hA
      have hs4 := hA.grown.size
      rw [World.size_alloc] at hs4
      have hn4 := hO.out.2.size
      have hO4 : OwnS kString 9 w4 (New w w4) v4 ((l.take (i + 1)).map RFile.name) := by
        rw [HT.out.1]
        refine (hA.own.flat flat_string fun j hj => ?_)
        have hlt := (hA.own.lt j hj).2
        refine ⟨?_, hlt⟩
        rcases hA.lies j hj with h | h
        · exact (hO.out.1.lt j h).1.1
        · have := h.1; rw [World.size_alloc] at this; omega
      have hb4 : Below w.heap.size w w4 := (hO.out.2.alloc (by omega) _).grown hA.grown (by rw [World.size_alloc]; omega) (fun j hj => (hO.out.1.lt j hj).1.1)
      obtain ⟨A7, n7, c7, rfl⟩ := hO4.shape
      have hn7 : n7 = i + 1 := by
        obtain ⟨A', c', e', _⟩ := hO4.slice
        injection e' with _ e' _
        rw [e', List.length_map, List.length_take]
        omega
      subst hn7
      have HQ := Lib.hid (And.intro hO4 hb4)
      clear hA hO3 hO4 hb4
      go_wp2
      go_roundw
      case rel => exact ⟨i + 1, A7, c7, by omega, by go_num, rfl, HQ⟩
      case measure => simp [intOf]; omega
    · obtain rfl : i = l.length := by omega
      have hl : l.take l.length = l := List.take_length
      rw [hl] at hO
      clear hr
      go_wp2
      go_ret
      exact ⟨_, rfl, hO.out.1, fun k hk => (hO.out.1.lt k hk).1.1, hO.out.2⟩

def rremL (s : ByteArray) (l : List RFile) : List RFile := if (rgot s l).2 = 0 then l.take (kp s l) ++ l.drop (kp s l + 1) else l
theorem rgot_zero (s : ByteArray) (l : List RFile) (h : (rgot s l).2 = 0) : validName s = true ∧ isAt s l = true := by
  unfold rgot at h
  split at h
  · cases h
  · rename_i hv
    split at h
    · rename_i hat
      exact ⟨by simpa using hv, hat⟩
    · cases h

set_option maxHeartbeats 8000000 in
set_option maxRecDepth 100000 in
theorem rremove_any (rb : Nat) (s : ByteArray) (w : World) (F : Foot) (room : Int) (l : List RFile) (A : Option Addr) (c : Nat) (h : RefAt w F rb room l A c) (hn : l.length ≤ 1000000000) (hs : s.size ≤ 35184372088832) :
    Calls Tryd.prog 89 #[.pointer (some ⟨rb, 0, none⟩), .string s] w (RPost w F rb room (rremL s l) (rgot s l).2) := by
  have HG := Lib.hid (rget_any rb s w F room l A c h hn hs)
  have hrlt : rb < w.heap.size := (Array.getElem?_eq_some_iff.1 h.cells).1
  have HF := Lib.hid (fun W (hb : Below w.heap.size w W) => rfind_any rb s W F room l A c (h.below hb) hn)
  have hz := rgot_zero s l
  obtain ⟨A', c', hvv, hc, hm, hr⟩ := h.own.reads
  obtain ⟨rfl, rfl⟩ : A = A' ∧ c = c' := by injection hvv with h1 _ h2; exact ⟨h1, h2⟩
  have H := Lib.hid (And.intro h hr)
  clear h hvv hr
  unfold rremL
  generalize rgot s l = g at HG hz ⊢
  obtain ⟨f, e0⟩ := g
  dsimp only at HG hz ⊢
  by_cases e00 : e0 = 0
  · subst e00
    rw [if_pos rfl]
    have hat := (hz rfl).2
    obtain ⟨k, hk⟩ : ∃ k, Hid (kp s l = k) := ⟨_, rfl⟩
    have hk1 : k < l.length := by
      obtain ⟨x, hx, _⟩ := isAt_get s l hat
      rw [hk.out] at hx
      exact (List.getElem?_eq_some_iff.1 hx).1
    rw [hat, hk.out] at HF
    rw [hk.out]
    clear hat hz hk
    go_enter Tryd.func89, Tryd.ntmps89
    go_wp2_with fail
    refine HG.out.mono ?_
    rintro e w1 ⟨A1, cp1, rfl, l1, m1, r1, hb1⟩
    have hb2 : Below w.heap.size w (w1.alloc (.cells #[.string f.name, .slice A1 f.b.length cp1, .int .i64 f.loose] 191)) := hb1.alloc hb1.size _
    have HX := Lib.hid hb2
    clear hb1 hb2 r1 HG
    go_wp2_with fail
    refine (HF.out _ HX.out).mono ?_
    rintro e w2 ⟨rfl, nd, rfl⟩
    have hb3 := below_drewN HX.out nd
    generalize (w1.alloc (.cells #[.string f.name, .slice A1 f.b.length cp1, .int .i64 f.loose] 191)).drewN nd = w2 at hb3 ⊢
    have hcl2 := (hb3.block rb hrlt).trans H.out.1.cells
    have c1 : w2.cell? ⟨rb, 1, none⟩ = some (.slice A l.length c) := cell_of_row w2 rb 1 _ _ _ hcl2
    have hrlt2 : rb < w2.heap.size := Nat.lt_of_lt_of_le hrlt hb3.size
    have hcut := cut_hi tFiles .i64 A l.length c k (by omega)
    obtain ⟨A6, hsl, htl⟩ := cut_lo tFiles .i64 A l.length c (k + 1) (by omega)
    have hsl1 : ∀ W, (Instr.slice 144 (.slice A l.length c) (some (.int .i64 ((k : Int) + 1))) none none).run Tryd.prog W = .ok (.slice A6 (l.length - (k + 1)) (c - (k + 1))) W := hsl
    have htl1 : ∀ W (FF : Foot), RS kRFile W FF A l.length l → RS kRFile W FF A6 (l.length - (k + 1)) (l.drop (k + 1)) := fun W FF => htl kRFile W FF l rfl hc
    obtain ⟨n6, hn6⟩ : ∃ n, Hid (l.length - (k + 1) = n) := ⟨_, rfl⟩
    obtain ⟨c6, hc6⟩ : ∃ n, Hid (c - (k + 1) = n) := ⟨_, rfl⟩
    rw [hn6.out] at htl1
    rw [hn6.out, hc6.out] at hsl1
    have hn6l : n6 ≤ 1000000000 := by have := hn6.out; omega
    have hNF : ¬ NoF rb := id
    have htk : (l.take k).length ≤ 1000000000 := by rw [List.length_take]; omega
    have hr2 : RS kRFile w2 (fun j => (F j ∧ j ≠ rb) ∧ j < w.heap.size) A l.length l := H.out.2.bound.below hb3
    have HB := Lib.hid (And.intro hb3 (And.intro hcl2 (And.intro hr2 htl1)))
    clear hb3 hcl2 HX HF hsl htl htl1 hr2
    go_wp2_with fail
    refine wp_region_plan [0, 0, 0, 0, 0, 0, 0, 1, 0, 0, 0, 0, 0, 0, 0, 1, 2, 2, 2] (fun w' => ∃ D : Same NoF w2, w' = D.world) (by kernel_rfl) (by kernel_rfl) InSame.start ?_
    simp only [sel, selE, Nat.reduceEqDiff, reduceIte]
    repeat (go_big_quiet_step (fail))
    refine wpQuiet_nil ?_
    have hr1 : RS kRFile w2.drew (fun j => (F j ∧ j ≠ rb) ∧ j < w.heap.size) A k (l.take k) := (HB.out.2.2.1.take_ k (by omega)).drew
    refine wpE_cons (fun N hN => ?_)
    go_wp2_with (first
      | (at_builtin
         refine wpList_append_S rfl tFiles _ (.tmp 30) rfl (K := kRFile) (F := NoF) (v := .slice none 0 0) (xs := []) rfl rfl OwnS.nil hr1 (fun k hk => by simp [Value.ownBlock] at hk) ?_ ?_ ?_))
    · simp; omega
    · simp; omega
    intro v3 w3 hA
    have hls : ∀ j, v3.ownBlock = some j → w2.heap.size ≤ j := fun j hj => by
      rcases hA.lies j hj with h | h
      · simp [Value.ownBlock] at h
      · have := h.1; rw [World.size_drew] at this; exact this
    have hO3 : OwnS kRFile 191 w3 (fun j => ((F j ∧ j ≠ rb) ∧ j < w.heap.size) ∨ w2.heap.size ≤ j) v3 (l.take k) := hA.own.mono fun j hj => by
      rcases hj with hj | hj | hj
      · exact hj.elim
      · exact .inl hj
      · exact .inr (by have := hj.1; rw [World.size_drew] at this; exact this)
    have hb4 : Below w2.heap.size w2 w3 := (drawn_below w2 1).trans ((Below.refl _ _).grown hA.grown (Nat.le_refl _) (by simp [Value.ownBlock]))
    obtain ⟨A3, n3, c3, rfl⟩ := hO3.shape
    have hr6 : RS kRFile w3 (fun j => (F j ∧ j ≠ rb) ∧ j < w.heap.size) A6 n6 (l.drop (k + 1)) := HB.out.2.2.2 _ _ (HB.out.2.2.1.below hb4)
    clear hA hr1
    go_wp2
    refine hN _ _ (InSame.of_below hb4) ?_
    clear hN N
    refine wpE_cons (fun N hN => ?_)
    go_wp2_with (first
      | (at_builtin
         refine wpList_append_S rfl tFiles (.tmp 31) (.tmp 38) rfl (K := kRFile) rfl rfl hO3 hr6 ?_ ?_ ?_ ?_))
    · intro j hj hj2
      have h1 := hls j hj
      have := hj2.2
      have := HB.out.1.size
      omega
    · omega
    · omega
    intro v5 w5 hA
    have hls5 : ∀ j, v5.ownBlock = some j → w2.heap.size ≤ j := fun j hj => by
      rcases hA.lies j hj with h | h
      · exact hls j h
      · have := h.1; have := hb4.size; omega
    have hO5 : OwnS kRFile 191 w5 (fun j => ((F j ∧ j ≠ rb) ∧ j < w.heap.size) ∨ w2.heap.size ≤ j) v5 (l.take k ++ l.drop (k + 1)) := hA.own.mono fun j hj => by
      rcases hj with hj | hj | hj
      · exact hj
      · exact .inl hj
      · exact .inr (by have := hj.1; have := hb4.size; omega)
    have hb5 : Below w2.heap.size w2 w5 := hb4.grown hA.grown (by have := hb4.size; omega) (fun j hj => hls j hj)
    obtain ⟨A5, c5, rfl, hl5, hm5, -⟩ := hO5.reads
    obtain ⟨L, hL⟩ : ∃ L, Hid ((l.take k ++ l.drop (k + 1)).length = L) := ⟨_, rfl⟩
    rw [hL.out] at hO5 hls5 hl5 ⊢
    clear hA hO3 hr6 hb4 hls
    go_wp2
    refine hN _ _ (InSame.of_below hb5) ?_
    clear hN N
    refine wpE_nil ?_
    have hcl5 := (hb5.block rb hrlt2).trans HB.out.2.1
    have c15 : w5.cell? ⟨rb, 1, none⟩ = some (.slice A l.length c) := cell_of_row w5 rb 1 _ _ _ hcl5
    have g15 : w5.frozen? ⟨rb, 1, none⟩ = false := frozen_of_row w5 rb 1 _ _ hcl5
    have hrlt5 : rb < w5.heap.size := by have := hb5.size; omega
    have hcl6 := heap_setCell_same w5 rb 1 _ _ (.slice A5 L c5) hcl5
    have H5 := Lib.hid (And.intro hO5 (And.intro hb5 (And.intro hls5 hcl6)))
    clear hO5 hb5 hls5 hcl5 hcl6
    go_wp2
    go_ret
    obtain ⟨hO5, hb5, hls5, hcl6⟩ := H5.out
    rw [← hL.out] at hO5 hcl6 ⊢
    have hb05 : Below w.heap.size w w5 := HB.out.1.trans (hb5.mono HB.out.1.size)
    have hs2 := HB.out.1.size
    have hs5 := hb5.size
    refine ⟨rfl, ⟨A5, c5, hcl6, .inl H.out.1.fs, ?_⟩, (Keeps.of_below hb05 (fun k => k = rb)).setCell (p := ⟨rb, 1, none⟩) (fun _ => rfl) _⟩
    refine ((hO5.bound).keep (by simp) fun j hj hl => Below.heap_setCell _ _ _ _ (fun e => ?_)).mono fun j hj => ?_
    · have e : j = rb := e
      rcases hj.1 with h | h
      · exact h.1.2 e
      · omega
    · rcases hj.1 with h | h
      · exact ⟨.inl h.1.1, h.1.2⟩
      · exact ⟨.inr ⟨by omega, by simpa using hj.2⟩, by omega⟩
  · rw [if_neg e00]
    have eb : (e0 != 0) = true := by rw [bne_iff_ne]; exact e00
    clear e00 hz HF
    go_enter Tryd.func89, Tryd.ntmps89
    go_wp2_with fail
    refine HG.out.mono ?_
    rintro e w1 ⟨A1, cp1, rfl, l1, m1, r1, hb1⟩
    have hb2 : Below w.heap.size w (w1.alloc (.cells #[.string f.name, .slice A1 f.b.length cp1, .int .i64 f.loose] 191)) := hb1.alloc hb1.size _
    have HX := Lib.hid hb2
    clear hb1 hb2 r1
    go_wp2
    go_ret
    exact RPost.same H.out.1 HX.out
end Go.Proofs.YtfjndjbpgcggkaaDoor
