/- Log.Put. -/
import Derived.Test.YtikpbhhnllchmaaLB
import Derived.Test.YtikpbhhnllchmaaR
set_option linter.unusedVariables false
set_option linter.unusedSimpArgs false
namespace Go.Proofs.Ytikpbhhnllchmaa
open Go.RowKit
attribute [local go_sem] Same.cell

theorem clip_any (A : Option Addr) (n c : Nat) (w : World) (hn : n ≤ c) :
    Calls Try.prog 65 #[.slice A n c] w fun e w' => e = .returned (.slice A n n) ∧ w = w' := by
  have hcut := cut_him tEntry .i64 .i64 A n c n n (Nat.le_refl _) hn
  go_enter Try.func65, Try.ntmps65
  go_wp2
  go_ret
  exact ⟨rfl, rfl⟩

/-- An entry that stands there alike. -/
def LogS.skips (s : LogS) (i : Int) (x : Entry) : Bool := decide (i ≤ s.base) || ((s.Term i).2 && decide ((s.Term i).1 = x.Term))
def LogS.putFrom (s : LogS) (prev fin : Int) : List Entry → Int → (Int × Int × Bool) × LogS
  | [], _ => ((0, fin, true), s)
  | x :: rest, k => if s.skips (prev + 1 + k) x then s.putFrom prev fin rest (k + 1) else ((prev + 1 + k, fin, true), { s with l := s.l.take (prev + 1 + k - s.base - 1).toNat ++ (x :: rest) })
def LogS.Put (s : LogS) (prev term : Int) (e : List Entry) : (Int × Int × Bool) × LogS :=
  if prev < 0 ∨ s.last < prev then ((0, 0, false), s)
  else if (s.Term prev).2 = true ∧ (s.Term prev).1 ≠ term then ((0, 0, false), s)
  else s.putFrom prev (if prev + e.length < s.base then s.base else prev + e.length) e 0

def PutPost (s : LogS) (g : Nat) (F : Foot) (w : World) (r : (Int × Int × Bool) × LogS) (e : Ending) (w' : World) : Prop :=
  e = .returned (.tuple #[.int .i64 r.1.1, .int .i64 r.1.2.1, .bool r.1.2.2]) ∧ LogAt w' g (Grow F w w') r.2 ∧ Keeps F w w'
theorem PutPost.same {s : LogS} {g : Nat} {F : Foot} {w w' : World} {a b : Int} {c : Bool} (h : LogAt w g F s) (hb : Below w.heap.size w w') : PutPost s g F w ((a, b, c), s) (.returned (.tuple #[.int .i64 a, .int .i64 b, .bool c])) w' :=
  ⟨rfl, (h.below hb).mono fun _ hk => .inl hk, Keeps.of_below hb F⟩

set_option maxHeartbeats 2000000 in
theorem Put_any (g : Nat) (F G : Foot) (s : LogS) (w : World) (prev term : Int) (A : Option Addr) (n c : Nat) (xs : List Entry) (h : LogAt w g F s) (ok : s.Ok)
    (hx : RS kEntry w G A n xs) (hn : n ≤ 1000000000) (hc : n ≤ c) (hr1 : ∀ x ∈ xs, x.Cmd.Records.length ≤ 1000000000) :
    Calls Try.prog 58 #[.pointer (some ⟨g, 0, none⟩), .int .i64 prev, .int .i64 term, .slice A n c] w (PutPost s g F w (s.Put prev term xs)) := by
  obtain ⟨As, cs, h0, h1, h2, hfz, hF, hlt, ho, hc1, hc2, hr, hbk⟩ := h.cells
  have Hbk := Lib.hid hbk
  clear hbk
  have b0 := ok.b0
  have b1 := ok.b1
  have l1 := ok.l1
  obtain rfl := hx.length
  by_cases c1 : prev < 0
  · have hT : s.Put prev term xs = ((0, 0, false), s) := by unfold LogS.Put; rw [if_pos (.inl c1)]
    rw [hT]
    go_enter Try.func58, Try.ntmps58
    go_wp2
    go_ret3
    exact PutPost.same h (Below.refl _ _)
  by_cases c2 : s.last < prev
  · have hT : s.Put prev term xs = ((0, 0, false), s) := by unfold LogS.Put; rw [if_pos (.inr c2)]
    rw [hT]
    go_enter Try.func58, Try.ntmps58
    go_wp2_with (go_at_call 40; refine (last_any _ _ _ _ h ok).mono ?_; rintro e w' ⟨rfl, k, rfl⟩)
    go_ret3
    exact PutPost.same h (drawn_below _ _)
  have hL : s.last = s.base + s.l.length := rfl
  have hpb : prev ≤ 1152921505606846976 := by omega
  obtain ⟨t, ht⟩ : ∃ t, Hid ((s.Term prev).1 = t) := ⟨_, rfl⟩
  obtain ⟨b, hb⟩ : ∃ b, Hid ((s.Term prev).2 = b) := ⟨_, rfl⟩
  by_cases c3 : b = true ∧ t ≠ term
  · have hT : s.Put prev term xs = ((0, 0, false), s) := by unfold LogS.Put; rw [if_neg (by omega), if_pos (by rw [ht.out, hb.out]; exact c3)]
    rw [hT]
    obtain ⟨rfl, c3⟩ := c3
    have c3b : (t != term) = true := by simpa using c3
    clear hL
    go_enter Try.func58, Try.ntmps58
    go_wp2_with (first
      | (go_at_call 40; refine (last_any _ _ _ _ h ok).mono ?_; rintro e w' ⟨rfl, k, rfl⟩)
      | (go_at_call 48; refine (Term_any _ _ _ _ _ (h.drewN _) ok).mono ?_; rintro e w' ⟨rfl, k2, rfl⟩; rw [ht.out, hb.out]))
    go_ret3
    exact PutPost.same h (drawn_below _ _)
  obtain ⟨fin, hfin⟩ : ∃ fin, Hid ((if prev + xs.length < s.base then s.base else prev + xs.length) = fin) := ⟨_, rfl⟩
  obtain ⟨r, hR⟩ : ∃ r, Hid (s.putFrom prev fin xs 0 = r) := ⟨_, rfl⟩
  have hT : s.Put prev term xs = r := by unfold LogS.Put; rw [if_neg (by omega), if_neg (by rw [ht.out, hb.out]; exact c3), hfin.out, hR.out]
  rw [hT]
  clear hT
  have hpl : prev ≤ s.last := by omega
  have HL := Lib.hid hL
  clear hL
  have hmax : Builtin.max_ #[3, 3] 3 #[.int .i64 (prev + xs.length), .int .i64 s.base] = pure (.int .i64 fin) := by
    rw [← hfin.out]
    simp only [Builtin.max_, Builtin.max2, List.foldlM_cons, List.foldlM_nil, gt_iff_lt]
    rfl
  have hbt : b = false ∨ (b = true ∧ t = term) := by
    cases b
    · exact .inl rfl
    · exact .inr ⟨rfl, Classical.byContradiction fun h => c3 ⟨rfl, h⟩⟩
  have e0 : (0 : Int) ≤ prev := by omega
  rcases hbt with rfl | ⟨rfl, rfl⟩
  all_goals
    go_enter Try.func58, Try.ntmps58
    go_wp2_with (first
      | (go_at_call 40; refine (last_any _ _ _ _ h ok).mono ?_; rintro e w' ⟨rfl, k, rfl⟩)
      | (go_at_call 48; refine (Term_any _ _ _ _ _ (h.drewN _) ok).mono ?_; rintro e w' ⟨rfl, k2, rfl⟩; rw [ht.out, hb.out]))
    go_loopw [50] (fun q wr => ∃ k : Nat, q = .int .i64 k ∧ k ≤ xs.length ∧ Below w.heap.size w wr ∧ prev + k ≤ s.last ∧ Hid (s.putFrom prev fin (xs.drop k) k = r)) (fun q _ => xs.length - (intOf q).toNat)
    case atStart => exact ⟨0, rfl, Nat.zero_le _, drawn_below _ _, by omega, by rw [List.drop_zero]; exact hR⟩
    case round =>
      obtain ⟨k, rfl, hk, hB, hpk, hP⟩ := hrel
      by_cases hlt2 : k < xs.length
      · obtain ⟨x, hxk⟩ : ∃ x, xs[k]? = some x := ⟨_, List.getElem?_eq_getElem hlt2⟩
        have hdrop : xs.drop k = x :: xs.drop (k + 1) := by rw [List.drop_eq_getElem_cons hlt2]; rw [List.getElem?_eq_getElem hlt2] at hxk; injection hxk with hxk; rw [hxk]
        have Hdrop := Lib.hid hdrop
        rw [hdrop] at hP
        clear hdrop
        obtain ⟨ad, A4, c4, hA0, hFa, k0, k1, k2, k3, k4, k5, k6, k7, k8, k9, k10, k11, k12, k13, hrest⟩ := at_Entry (hx.below hB) hxk
        clear hrest
        have HA0 := Lib.hid hA0
        rw [hA0]
        clear hA0
        go_wp2_with fail
        have hb1 : Below w.heap.size w (wr.alloc (.cells #[.int .i64 x.Term, .int .i64 x.Cmd.Kind, .int .i64 x.Cmd.Pid, .int .i64 x.Cmd.Seq, .slice A4 x.Cmd.Records.length c4, .string x.Cmd.Group, .int .i64 x.Cmd.Offset, .int .i64 x.Cmd.Max, .int .i64 x.Cmd.Now, .int .u32 x.Cmd.Sum, .int .i64 x.Cmd.Conf.Segment, .int .i64 x.Cmd.Conf.Keep, .int .i64 x.Cmd.Conf.Age, .int .i64 x.Cmd.Conf.Grace] 43)) := hB.alloc hB.size _
        have hbx : (wr.alloc (.cells #[.int .i64 x.Term, .int .i64 x.Cmd.Kind, .int .i64 x.Cmd.Pid, .int .i64 x.Cmd.Seq, .slice A4 x.Cmd.Records.length c4, .string x.Cmd.Group, .int .i64 x.Cmd.Offset, .int .i64 x.Cmd.Max, .int .i64 x.Cmd.Now, .int .u32 x.Cmd.Sum, .int .i64 x.Cmd.Conf.Segment, .int .i64 x.Cmd.Conf.Keep, .int .i64 x.Cmd.Conf.Age, .int .i64 x.Cmd.Conf.Grace] 43)).heap[wr.heap.size]? = some (.cells #[.int .i64 x.Term, .int .i64 x.Cmd.Kind, .int .i64 x.Cmd.Pid, .int .i64 x.Cmd.Seq, .slice A4 x.Cmd.Records.length c4, .string x.Cmd.Group, .int .i64 x.Cmd.Offset, .int .i64 x.Cmd.Max, .int .i64 x.Cmd.Now, .int .u32 x.Cmd.Sum, .int .i64 x.Cmd.Conf.Segment, .int .i64 x.Cmd.Conf.Keep, .int .i64 x.Cmd.Conf.Age, .int .i64 x.Cmd.Conf.Grace] 43 (0, 0)) := heap_alloc_new wr _
        clear k0 k1 k2 k3 k4 k5 k6 k7 k8 k9 k10 k11 k12 k13
        have hltr := hB.size
        generalize wr.alloc (.cells #[.int .i64 x.Term, .int .i64 x.Cmd.Kind, .int .i64 x.Cmd.Pid, .int .i64 x.Cmd.Seq, .slice A4 x.Cmd.Records.length c4, .string x.Cmd.Group, .int .i64 x.Cmd.Offset, .int .i64 x.Cmd.Max, .int .i64 x.Cmd.Now, .int .u32 x.Cmd.Sum, .int .i64 x.Cmd.Conf.Segment, .int .i64 x.Cmd.Conf.Keep, .int .i64 x.Cmd.Conf.Age, .int .i64 x.Cmd.Conf.Grace] 43) = w1 at hb1 hbx ⊢
        obtain ⟨kb0, _⟩ := box_Entry hbx
        clear hbx
        refine (Term_any _ _ _ _ _ (h.below hb1) ok).mono ?_
        rintro e w2 ⟨rfl, n2, rfl⟩
        obtain ⟨tt, htt⟩ : ∃ tt, Hid ((s.Term (prev + 1 + k)).1 = tt) := ⟨_, rfl⟩
        obtain ⟨bb, hbb⟩ : ∃ bb, Hid ((s.Term (prev + 1 + k)).2 = bb) := ⟨_, rfl⟩
        rw [htt.out, hbb.out]
        have hz0 : (w1.drewN n2).cell? ⟨g, 0, none⟩ = some (.int .i64 s.base) := (hb1.cell hlt).trans h0
        have hz1 : (w1.drewN n2).cell? ⟨wr.heap.size, 0, none⟩ = some (.int .i64 x.Term) := kb0
        have hb2 : Below w.heap.size w (w1.drewN n2) := ⟨hb1.os, hb1.tape, hb1.output, hb1.size, hb1.block⟩
        clear kb0
        generalize w1.drewN n2 = w2 at hz0 hz1 hb2 ⊢
        have hcase : prev + 1 + (k : Int) ≤ s.base ∨ (s.base < prev + 1 + (k : Int) ∧ bb = true ∧ tt = x.Term) ∨ (s.base < prev + 1 + (k : Int) ∧ (bb = false ∨ (bb = true ∧ tt ≠ x.Term))) := by
          by_cases d1 : prev + 1 + (k : Int) ≤ s.base
          · exact .inl d1
          · cases bb
            · exact .inr (.inr ⟨by omega, .inl rfl⟩)
            · by_cases d2 : tt = x.Term
              · exact .inr (.inl ⟨by omega, rfl, d2⟩)
              · exact .inr (.inr ⟨by omega, .inr ⟨rfl, d2⟩⟩)
        rcases hcase with d1 | ⟨d1, rfl, rfl⟩ | ⟨d1, d2⟩
        · go_wp2
          go_roundw
          case rel =>
            refine ⟨k + 1, by go_num, by omega, hb2, by have := HL.out; omega, ?_⟩
            have hh := hP.out
            rw [LogS.putFrom, if_pos (by unfold LogS.skips; rw [decide_eq_true d1]; rfl)] at hh
            rw [show ((k + 1 : Nat) : Int) = (k : Int) + 1 by omega]
            exact hh
          case measure => simp [intOf]; omega
        · go_wp2
          go_roundw
          case rel =>
            have hl2 := (LogS.Term_ok hbb.out).2
            refine ⟨k + 1, by go_num, by omega, hb2, by omega, ?_⟩
            have hh := hP.out
            rw [LogS.putFrom, if_pos (by unfold LogS.skips; rw [hbb.out, htt.out]; simp)] at hh
            rw [show ((k + 1 : Nat) : Int) = (k : Int) + 1 by omega]
            exact hh
          case measure => simp [intOf]; omega
        · have hres : ((prev + 1 + (k : Int), fin, true), { s with l := s.l.take (prev + 1 + k - s.base - 1).toNat ++ (x :: xs.drop (k + 1)) }) = r := by
            have hh := hP.out
            rw [LogS.putFrom, if_neg ?_] at hh
            · exact hh
            · unfold LogS.skips
              rw [hbb.out, htt.out, decide_eq_false (by omega)]
              rcases d2 with rfl | ⟨rfl, d2⟩
              · simp
              · simpa using d2
          obtain ⟨j, hj⟩ : ∃ j : Nat, prev + 1 + (k : Int) = s.base + 1 + j := ⟨(prev + 1 + (k : Int) - s.base - 1).toNat, by omega⟩
          rw [show (prev + 1 + (k : Int) - s.base - 1).toNat = j by omega, ← Hdrop.out] at hres
          have Hres := Lib.hid hres
          clear hres hP htt hbb
          have hjl : j ≤ s.l.length := by have := HL.out; omega
          have ej : prev + 1 + (k : Int) - s.base - 1 = (j : Int) := by omega
          have Hj := Lib.hid hj
          clear hj
          have hd : (bb && tt == x.Term) = false := by
            rcases d2 with rfl | ⟨rfl, d2⟩
            · rfl
            · simpa using d2
          have hAn : As = none → j = 0 := fun e => by
            rcases Nat.eq_zero_or_pos s.l.length with h0 | h0
            · omega
            · obtain ⟨ad', h', _⟩ := hr.lt h0
              rw [e] at h'; cases h'
          have hcut1 := cut_hi tEntry .i64 As s.l.length cs j (by omega)
          obtain ⟨A', hcut2, hrs⟩ := cut_lo tEntry .i64 (some ad) xs.length c k (by omega)
          have HX := Lib.hid (hr.take_ j hjl)
          have HY := Lib.hid (hrs kEntry _ _ _ rfl hc (HA0.out ▸ hx))
          clear hrs
          have q2 : w2.cell? ⟨g, 2, none⟩ = some (.slice As s.l.length cs) := (hb2.cell hlt).trans h2
          have hlt2' : g < w2.heap.size := by have := hb2.size; omega
          have hNF : ¬ NoF g := id
          have e5 : (0 : Int) ≤ (k : Int) := by omega
          have e6 : (k : Int) ≤ (xs.length : Int) := by omega
          have e7 : (0 : Int) ≤ (j : Int) := by omega
          rcases d2 with rfl | ⟨rfl, d2⟩
          all_goals
            first | (have d2b : (tt == x.Term) = false := by simpa using d2) | skip
            go_wp2_with fail
            refine wp_region_plan [0, 0, 0, 0, 0, 0, 0, 0, 0, 0, 0, 0, 0, 1, 0, 0, 0, 1, 1, 2, 2, 2] (fun w' => ∃ D : Same NoF w2, w' = D.world) (by kernel_rfl) (by kernel_rfl) InSame.start ?_
            simp only [sel, selE, Nat.reduceEqDiff, reduceIte]
            repeat (go_big_quiet_step (fail))
            refine wpQuiet_nil ?_
            refine wpE_cons (fun N hN => ?_)
            go_wp2_with fail
            refine (clip_any _ _ _ _ (by omega)).mono ?_
            rintro e w3 ⟨rfl, rfl⟩
            go_wp2
            refine hN _ _ InSame.start ?_
            clear hN N
            refine wpE_cons (fun N hN => ?_)
            go_wp2_with fail
            refine (copied_any _ _ _ _ _ _ ((HY.out.below hb2).drew) (by omega) (fun y hy => by have := hr1 y (List.mem_of_mem_drop hy); omega)).mono ?_
            rintro e w4 ⟨v4, rfl, hM⟩
            obtain ⟨A4', c4', rfl, hl4, hm4, hr4⟩ := hM.own.reads
            have hlen4 : (xs.drop k).length = xs.length - k := List.length_drop
            rw [hlen4] at hr4 ⊢
            go_wp2
            have hb4 : Below w2.heap.size w2 w4 := below_undrew hM.below
            refine hN _ _ (InSame.of_below hb4) ?_
            clear hN N
            refine wpE_cons (fun N hN => ?_)
            have hb04 : Below w.heap.size w w4 := hb2.trans (hb4.mono hb2.size)
            go_wp2_with (first
              | (at_builtin
                 refine wpList_append_full rfl tEntry (.tmp 93) (.tmp 97) rfl (K := kEntry) rfl rfl (HX.out.below hb04) hr4 (by omega) (by omega) (by omega) (by omega) hAn ?_))
            intro v5 w5 hA
            obtain ⟨A5, n5, c5, rfl⟩ := hA.own.shape
            go_wp2
            have hb5 : Below w2.heap.size w2 w5 := hb4.trans (hA.below.mono hb4.size)
            refine hN _ _ (InSame.of_below hb5) ?_
            refine wpE_nil ?_
            clear hN N
            have hb05 : Below w.heap.size w w5 := hb2.trans (hb5.mono hb2.size)
            have hg4 : w5.heap[g]? = some (.cells #[.int .i64 s.base, .int .i64 s.term, .slice As s.l.length cs] 65 (0, 0)) := (hb05.block g hlt).trans Hbk.out
            have p2 : w5.cell? ⟨g, 2, none⟩ = some (.slice As s.l.length cs) := cell_of_row w5 g 2 _ _ _ hg4
            have f2 : w5.frozen? ⟨g, 2, none⟩ = false := frozen_of_row w5 g 2 _ _ hg4
            have Hg4 := Lib.hid hg4
            clear hg4
            go_wp2
            go_ret3
            rw [← Hres.out]
            refine ⟨rfl, LogAt.store Hg4.out (.inl hF) (hA.own.mono fun k hk => ?_), Keeps.setCell (Keeps.of_below hb05 F) (p := ⟨g, 2, none⟩) (fun _ => hF) _⟩
            have hs2 := hb2.size
            have hs4 := hb4.size
            have hs5 : (w5.setCell ⟨g, 2, none⟩ (.slice A5 n5 c5)).heap.size = w5.heap.size := World.size_setCell ..
            have hs6 := hA.below.size
            rcases hk with hk | hk | hk
            · exact ⟨.inl hk.1, hk.2⟩
            · have hk1 : w2.heap.size ≤ k := hk.1
              have hk2 := hk.2
              exact ⟨.inr ⟨by omega, by omega⟩, by omega⟩
            · exact ⟨.inr ⟨by omega, by omega⟩, by omega⟩
      · obtain rfl : k = xs.length := by omega
        have hres := hP.out
        rw [List.drop_length, LogS.putFrom] at hres
        have Hres := Lib.hid hres
        clear hres hP
        go_wp2
        go_ret3
        rw [← Hres.out]
        exact PutPost.same h hB
end Go.Proofs.Ytikpbhhnllchmaa
