/- Contract of the document's Log: Put. -/
import Derived.Test.YtngmipppgnlkdaaS4
set_option linter.unusedVariables false
set_option linter.unusedSimpArgs false
namespace Go.Proofs.Ytngmipppgnlkdaa
open Go.RowKit
attribute [local go_sem] Same.cell

def RPutPost (s : LogS) (g : Nat) (F : Foot) (w : World) (r : (Int × Int × Bool) × LogS) (e : Ending) (w' : World) : Prop :=
  e = .returned (.tuple #[.int .i64 r.1.1, .int .i64 r.1.2.1, .bool r.1.2.2]) ∧ RLogAt w' g (Grow F w w') r.2 ∧ Keeps F w w'
theorem RPutPost.same {s : LogS} {g : Nat} {F : Foot} {w w' : World} {a b : Int} {c : Bool} (h : RLogAt w g F s) (hb : Below w.heap.size w w') : RPutPost s g F w ((a, b, c), s) (.returned (.tuple #[.int .i64 a, .int .i64 b, .bool c])) w' :=
  ⟨rfl, (h.below hb).mono fun _ hk => .inl hk, Keeps.of_below hb F⟩

set_option maxRecDepth 100000 in
set_option maxHeartbeats 4000000 in
theorem RPut_any (g : Nat) (F G : Foot) (s : LogS) (w : World) (prev term : Int) (A : Option Addr) (n c : Nat) (xs : List Entry) (h : RLogAt w g F s) (ok : s.Ok)
    (hx : RS kEntry w G A n xs) (hn : n ≤ 1000000000) (hc : n ≤ c) (hr1 : ∀ x ∈ xs, x.Cmd.Records.length ≤ 1000000000) :
    Calls Try.prog 48 #[.pointer (some ⟨g, 0, none⟩), .int .i64 prev, .int .i64 term, .slice A n c] w (RPutPost s g F w (s.Put prev term xs)) := by
  obtain ⟨As, cs, h0, h1, h2, hfz, hF, hlt, ho, hc1, hc2, hr, hbk⟩ := h.cells
  have Hbk := Lib.hid hbk
  clear hbk
  have b0 := ok.b0
  have b1 := ok.b1
  have l1 := ok.l1
  obtain rfl := hx.length
  have HL := Lib.hid (show s.last = s.base + s.l.length from rfl)
  have HLa := Lib.hid (show s.Last.1 = s.last from rfl)
  obtain ⟨la, hla⟩ : ∃ la, Hid (s.Last.1 = la) := ⟨_, rfl⟩
  obtain ⟨lt2, hlt2⟩ : ∃ lt, Hid (s.Last.2 = lt) := ⟨_, rfl⟩
  have hlae : la = s.base + s.l.length := by rw [← hla.out]; rfl
  have Hlae := Lib.hid hlae
  have hla1 : la ≤ 1152921505606846976 := by omega
  clear hlae
  by_cases c1 : prev < 0
  · have hT : s.Put prev term xs = ((0, 0, false), s) := by unfold LogS.Put; rw [if_pos (.inl c1)]
    rw [hT]
    go_enter Try.func48, Try.ntmps48
    go_wp2_with fail
    refine (RLast_any _ _ _ _ h ok).mono ?_
    rintro e w1 ⟨rfl, k, rfl⟩
    go_wp2
    go_ret3
    exact RPutPost.same h (drawn_below _ _)
  by_cases c2 : la < prev
  · have hT : s.Put prev term xs = ((0, 0, false), s) := by unfold LogS.Put; rw [if_pos (.inr (by have := Hlae.out; have := HL.out; omega))]
    rw [hT]
    go_enter Try.func48, Try.ntmps48
    go_wp2_with fail
    refine (RLast_any _ _ _ _ h ok).mono ?_
    rintro e w1 ⟨rfl, k, rfl⟩
    rw [hla.out]
    go_wp2
    go_ret3
    exact RPutPost.same h (drawn_below _ _)
  have hpb : prev ≤ 1152921505606846976 := by omega
  obtain ⟨t, ht⟩ : ∃ t, Hid ((s.Term prev).1 = t) := ⟨_, rfl⟩
  obtain ⟨b, hb⟩ : ∃ b, Hid ((s.Term prev).2 = b) := ⟨_, rfl⟩
  by_cases c3 : b = true ∧ t ≠ term
  · have hT : s.Put prev term xs = ((0, 0, false), s) := by unfold LogS.Put; rw [if_neg (by have := Hlae.out; have := HL.out; omega), if_pos (by rw [ht.out, hb.out]; exact c3)]
    rw [hT]
    obtain ⟨rfl, c3⟩ := c3
    have c3b : (t != term) = true := by simpa using c3
    go_enter Try.func48, Try.ntmps48
    go_wp2_with fail
    refine (RLast_any _ _ _ _ h ok).mono ?_
    rintro e w1 ⟨rfl, k, rfl⟩
    rw [hla.out]
    go_wp2_with fail
    refine (RTerm_any _ _ _ _ _ (h.drewN _) ok).mono ?_
    rintro e w1 ⟨rfl, k2, rfl⟩
    rw [ht.out, hb.out]
    go_wp2
    go_ret3
    exact RPutPost.same h (drawn_below _ _)
  obtain ⟨fin, hfin⟩ : ∃ fin, Hid ((if prev + xs.length < s.base then s.base else prev + xs.length) = fin) := ⟨_, rfl⟩
  obtain ⟨r, hR⟩ : ∃ r, Hid (s.putFrom prev fin xs 0 = r) := ⟨_, rfl⟩
  have hT : s.Put prev term xs = r := by unfold LogS.Put; rw [if_neg (by have := Hlae.out; have := HL.out; omega), if_neg (by rw [ht.out, hb.out]; exact c3), hfin.out, hR.out]
  rw [hT]
  clear hT
  have hpl : prev ≤ s.last := by have := Hlae.out; have := HL.out; omega
  have hbt : b = false ∨ (b = true ∧ t = term) := by
    cases b
    · exact .inl rfl
    · exact .inr ⟨rfl, Classical.byContradiction fun h => c3 ⟨rfl, h⟩⟩
  have e0 : (0 : Int) ≤ prev := by omega
  clear hpl
  have hfc : (prev + xs.length < s.base ∧ fin = s.base) ∨ (¬ prev + xs.length < s.base ∧ fin = prev + xs.length) := by
    rw [← hfin.out]
    by_cases hh : prev + (xs.length : Int) < s.base
    · exact .inl ⟨hh, if_pos hh⟩
    · exact .inr ⟨hh, if_neg hh⟩
  have hpl2 : prev ≤ la := by omega
  rcases hbt with rfl | ⟨rfl, rfl⟩
  all_goals
    rcases hfc with ⟨hf1, hf2⟩ | ⟨hf1, hf2⟩
    all_goals
      have Hf2 := Lib.hid hf2
      clear hf2
      go_enter Try.func48, Try.ntmps48
      go_wp2_with fail
      refine (RLast_any _ _ _ _ h ok).mono ?_
      rintro e w1 ⟨rfl, k, rfl⟩
      rw [hla.out]
      go_wp2_with fail
      refine (RTerm_any _ _ _ _ _ (h.drewN _) ok).mono ?_
      rintro e w1 ⟨rfl, k2, rfl⟩
      rw [ht.out, hb.out]
      go_wp2_with fail
      rw [← Hf2.out]
      clear hf1
      go_loopw [16] (fun q wr => ∃ k : Nat, q = .int .i64 k ∧ k ≤ xs.length ∧ Below w.heap.size w wr ∧ prev + k ≤ la ∧ Hid (s.putFrom prev fin (xs.drop k) k = r)) (fun q _ => xs.length - (intOf q).toNat)
      case atStart => exact ⟨0, rfl, Nat.zero_le _, drawn_below _ _, by omega, by rw [List.drop_zero]; exact hR⟩
      case round =>
        obtain ⟨k, rfl, hk, hB, hpk, hP⟩ := hrel
        by_cases hlt3 : k < xs.length
        · obtain ⟨x, hxk⟩ : ∃ x, xs[k]? = some x := ⟨_, List.getElem?_eq_getElem hlt3⟩
          have hdrop : xs.drop k = x :: xs.drop (k + 1) := by rw [List.drop_eq_getElem_cons hlt3]; rw [List.getElem?_eq_getElem hlt3] at hxk; injection hxk with hxk; rw [hxk]
          have Hdrop := Lib.hid hdrop
          rw [hdrop] at hP
          clear hdrop
          by_cases d1 : prev + 1 + (k : Int) ≤ s.base
          · have hz0 : wr.cell? ⟨g, 0, none⟩ = some (.int .i64 s.base) := (hB.cell hlt).trans h0
            clear hxk
            go_wp2
            go_roundw
            case rel =>
              refine ⟨k + 1, by go_num, by omega, hB, by have := Hlae.out; omega, ?_⟩
              have hh := hP.out
              rw [LogS.putFrom, if_pos (by unfold LogS.skips; rw [decide_eq_true d1]; rfl)] at hh
              rw [show ((k + 1 : Nat) : Int) = (k : Int) + 1 by omega]
              exact hh
            case measure => simp [intOf]; omega
          have hz0 : wr.cell? ⟨g, 0, none⟩ = some (.int .i64 s.base) := (hB.cell hlt).trans h0
          have d1' : decide (prev + 1 + (k : Int) ≤ s.base) = false := by simpa using d1
          have Hxk := Lib.hid hxk
          clear hxk
          go_wp2_with fail
          refine (RTerm_any _ _ _ _ _ (h.below hB) ok).mono ?_
          rintro e w2 ⟨rfl, n2, rfl⟩
          obtain ⟨tt, htt⟩ : ∃ tt, Hid ((s.Term (prev + 1 + k)).1 = tt) := ⟨_, rfl⟩
          obtain ⟨bb, hbb⟩ : ∃ bb, Hid ((s.Term (prev + 1 + k)).2 = bb) := ⟨_, rfl⟩
          rw [htt.out, hbb.out]
          have hb2 : Below w.heap.size w (wr.drewN n2) := ⟨hB.os, hB.tape, hB.output, hB.size, hB.block⟩
          clear hz0
          generalize wr.drewN n2 = w2 at hb2 ⊢
          have hz0 : w2.cell? ⟨g, 0, none⟩ = some (.int .i64 s.base) := (hb2.cell hlt).trans h0
          obtain ⟨ad, A4, c4, hA0, hFa, k0, hrest⟩ := at_Entry (hx.below hb2) Hxk.out
          clear hrest
          subst hA0
          by_cases d2 : bb = true ∧ tt = x.Term
          · obtain ⟨rfl, rfl⟩ := d2
            have d3 : (x.Term == x.Term) = true := by rw [beq_iff_eq]
            go_wp2
            go_roundw
            case rel =>
              have hl2 := (LogS.Term_ok hbb.out).2
              refine ⟨k + 1, by go_num, by omega, hb2, by have := HL.out; have := Hlae.out; omega, ?_⟩
              have hh := hP.out
              rw [LogS.putFrom, if_pos (by unfold LogS.skips; rw [hbb.out, htt.out]; simp)] at hh
              rw [show ((k + 1 : Nat) : Int) = (k : Int) + 1 by omega]
              exact hh
            case measure => simp [intOf]; omega
          · have hres : ((prev + 1 + (k : Int), fin, true), { s with l := s.l.take (prev + 1 + k - s.base - 1).toNat ++ (x :: xs.drop (k + 1)) }) = r := by
              have hh := hP.out
              rw [LogS.putFrom, if_neg ?_] at hh
              · exact hh
              · unfold LogS.skips
                rw [hbb.out, htt.out, decide_eq_false (by omega)]
                cases bb
                · simp
                · simpa using d2
            obtain ⟨j, hj⟩ : ∃ j : Nat, prev + 1 + (k : Int) = s.base + 1 + j := ⟨(prev + 1 + (k : Int) - s.base - 1).toNat, by omega⟩
            rw [show (prev + 1 + (k : Int) - s.base - 1).toNat = j by omega, ← Hdrop.out] at hres
            have Hres := Lib.hid hres
            clear hres hP htt hbb
            have hjl : j ≤ s.l.length := by have := Hlae.out; omega
            have ej : prev + 1 + (k : Int) - s.base - 1 = (j : Int) := by omega
            have Hj := Lib.hid hj
            clear hj
            have hcut1 := cut_hi tEntry .i64 As s.l.length cs j (by omega)
            obtain ⟨A', hcut2, hrs⟩ := cut_lo tEntry .i64 (some ad) xs.length c k (by omega)
            have HX := Lib.hid (hr.take_ j hjl)
            have HY := Lib.hid (hrs kEntry _ _ _ rfl hc hx)
            clear hrs
            have q2 : w2.cell? ⟨g, 2, none⟩ = some (.slice As s.l.length cs) := (hb2.cell hlt).trans h2
            have hlt2' : g < w2.heap.size := by have := hb2.size; omega
            have hNF : ¬ NoF g := id
            have e5 : (0 : Int) ≤ (k : Int) := by omega
            have e6 : (k : Int) ≤ (xs.length : Int) := by omega
            have e7 : (0 : Int) ≤ (j : Int) := by omega
            have e8 : j ≤ s.l.length := hjl
            have d4 : bb = false ∨ (bb = true ∧ (tt == x.Term) = false) := by
              cases bb
              · exact .inl rfl
              · exact .inr ⟨rfl, by simpa using d2⟩
            clear d2
            rcases d4 with rfl | ⟨rfl, d4⟩
            all_goals
              go_wp2_with fail
              refine wp_region_plan [0, 0, 0, 0, 0, 0, 0, 0, 0, 0, 0, 0, 0, 1, 0, 0, 0, 1, 1, 2, 2, 2] (fun w' => ∃ D : Same NoF w2, w' = D.world) (by kernel_rfl) (by kernel_rfl) InSame.start ?_
              simp only [sel, selE, Nat.reduceEqDiff, reduceIte]
              repeat (go_big_quiet_step (fail))
              refine wpQuiet_nil ?_
              clear hcut1 hcut2
              refine wpE_cons (fun N hN => ?_)
              have hr2 := (HX.out.below hb2).drew
              have hdl : (s.l.take j).length = j := by rw [List.length_take]; omega
              go_wp2_with (first
                | (at_builtin
                   refine wpList_append_S rfl tEntry _ (.tmp 102) rfl (K := kEntry) (F := NoF) (v := .slice none 0 0) (xs := []) rfl rfl OwnS.nil hr2 (fun k hk => by simp [Value.ownBlock] at hk) ?_ ?_ ?_))
              · simp; omega
              · simp; omega
              intro v3 w3 hA
              have hls : ∀ k, v3.ownBlock = some k → w2.heap.size ≤ k := fun k hk => by
                rcases hA.lies k hk with h | h
                · simp [Value.ownBlock] at h
                · have := h.1; rw [World.size_drew] at this; exact this
              have hO3 : OwnS kEntry 38 w3 (fun k => (F k ∧ k ≠ g) ∨ w2.heap.size ≤ k) v3 (s.l.take j) := hA.own.mono fun k hk => by
                rcases hk with hk | hk | hk
                · exact hk.elim
                · exact .inl hk
                · exact .inr (by have := hk.1; rw [World.size_drew] at this; exact this)
              have hb3 : Below w2.heap.size w2 w3 := (drawn_below w2 1).trans ((Below.refl _ _).grown hA.grown (Nat.le_refl _) (by simp [Value.ownBlock]))
              obtain ⟨A3, n3, c3, rfl⟩ := hO3.shape
              clear hA hr2
              go_wp2
              refine hN _ _ (InSame.of_below hb3) ?_
              clear hN N
              refine wpE_cons (fun N hN => ?_)
              go_wp2_with fail
              refine (CopyEntries_any _ _ _ _ _ _ ((HY.out.below hb2).below hb3) (by omega) (fun y hy => hr1 y (List.mem_of_mem_drop hy))).mono ?_
              rintro e w4 ⟨v4, rfl, hM⟩
              obtain ⟨A4', c4', rfl, hl4, hm4, hr4⟩ := hM.own.reads
              have hb34 := hM.below
              have hb4 : Below w2.heap.size w2 w4 := hb3.trans (hb34.mono hb3.size)
              go_wp2
              refine hN _ _ (InSame.of_below hb4) ?_
              clear hN N hM
              refine wpE_cons (fun N hN => ?_)
              have hlen4 : (xs.drop k).length = xs.length - k := List.length_drop
              rw [hlen4] at hr4
              go_wp2_with (first
                | (at_builtin
                   refine wpList_append_S rfl tEntry (.tmp 103) (.tmp 107) rfl (K := kEntry) rfl rfl (hO3.below hb34) hr4 ?_ ?_ ?_ ?_))
              · intro q hq hq2
                have h1 := (hO3.lt q hq).2
                have := hq2.1
                omega
              · omega
              · omega
              intro v5 w5 hA
              have hO5 : OwnS kEntry 38 w5 (fun k => (F k ∧ k ≠ g) ∨ w2.heap.size ≤ k) v5 (s.l.take j ++ xs.drop k) := hA.own.mono fun k hk => by
                rcases hk with hk | hk | hk
                · exact hk
                · exact .inr (by have := hk.1; have := hb3.size; omega)
                · exact .inr (by have := hk.1; have := hb4.size; omega)
              have hb5 : Below w2.heap.size w2 w5 := hb4.grown hA.grown (by have := hb4.size; omega) (fun k hk => hls k hk)
              obtain ⟨A5, n5, c5, rfl⟩ := hO5.shape
              clear hA
              go_wp2
              refine hN _ _ (InSame.of_below hb5) ?_
              refine wpE_nil ?_
              clear hN N
              have hb05 : Below w.heap.size w w5 := hb2.trans (hb5.mono hb2.size)
              have hg4 : w5.heap[g]? = some (.cells #[.int .i64 s.base, .int .i64 s.term, .slice As s.l.length cs] 77 (0, 0)) := (hb05.block g hlt).trans Hbk.out
              have p2 : w5.cell? ⟨g, 2, none⟩ = some (.slice As s.l.length cs) := cell_of_row w5 g 2 _ _ _ hg4
              have f2 : w5.frozen? ⟨g, 2, none⟩ = false := frozen_of_row w5 g 2 _ _ hg4
              have Hg4 := Lib.hid hg4
              clear hg4
              go_wp2
              go_ret3
              rw [← Hres.out]
              have hO6 := hO5.bound
              have hs2 := hb2.size
              have hs5 := hb5.size
              refine ⟨rfl, RLogAt.store Hg4.out (.inl hF) (hO6.mono fun k hk => ?_), Keeps.setCell (Keeps.of_below hb05 F) (p := ⟨g, 2, none⟩) (fun _ => hF) _⟩
              rcases hk.1 with h | h
              · exact ⟨.inl h.1, h.2⟩
              · refine ⟨.inr ⟨by omega, ?_⟩, by omega⟩
                have := hk.2
                simpa using this
        · obtain rfl : k = xs.length := by omega
          have hres := hP.out
          rw [List.drop_length, LogS.putFrom] at hres
          have Hres := Lib.hid hres
          clear hres hP
          go_wp2
          go_ret3
          rw [← Hres.out]
          exact RPutPost.same h hB
end Go.Proofs.Ytngmipppgnlkdaa
