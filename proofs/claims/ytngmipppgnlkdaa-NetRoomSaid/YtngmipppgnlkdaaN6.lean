/- The law NetRoom, walked. -/
import Derived.Test.YtngmipppgnlkdaaN5
import Derived.Test.YtngmipppgnlkdaaX2
set_option linter.unusedVariables false
set_option linter.unusedSimpArgs false
namespace Go.Proofs.Ytngmipppgnlkdaa
open Go.RowKit
attribute [local go_sem] Same.cell

theorem netAdd_eq : ∀ (ys l : List Message), l.length ≤ 10000 → netAdd l ys = l ++ ys.take (10000 - l.length)
  | [], l, h => by simp [netAdd]
  | m :: r, l, h => by
    unfold netAdd
    by_cases hl : l.length < 10000
    · rw [if_pos hl, netAdd_eq r _ (by rw [List.length_append, List.length_singleton]; omega), List.length_append, List.length_singleton, List.append_assoc]
      obtain ⟨q, hq⟩ : ∃ q, 10000 - l.length = q + 1 := ⟨10000 - l.length - 1, by omega⟩
      rw [hq, show 10000 - (l.length + 1) = q by omega, List.take_succ_cons]
      rfl
    · rw [if_neg hl, netAdd_eq r l h, show 10000 - l.length = 0 by omega]
      simp
/-- The row of messages of which i have their terms. -/
def rowAt (M i : Nat) : List Message := (List.range M).map fun t => msgL 0 0 0 (if t < i then (t : Int) else 0)
theorem rowAt_zero (M : Nat) : List.replicate M (msgL 0 0 0 0) = rowAt M 0 := by
  apply List.ext_getElem?
  intro t
  rw [List.getElem?_replicate, rowAt, List.getElem?_map]
  by_cases h : t < M
  · rw [if_pos h, List.getElem?_range h]; rfl
  · rw [if_neg h, List.getElem?_eq_none (by simp; omega)]; rfl
theorem rowAt_all (M : Nat) : rowAt M M = terms (List.range M) := by
  unfold rowAt terms
  apply List.map_congr_left
  intro t ht
  rw [if_pos (List.mem_range.1 ht)]
theorem rowAt_at {M i : Nat} (h : i < M) : (rowAt M i)[i]? = some (msgL 0 0 0 0) := by
  rw [rowAt, List.getElem?_map, List.getElem?_range h]
  simp
theorem rowAt_set {M i : Nat} (h : i < M) : (rowAt M i).set i (msgL 0 0 0 i) = rowAt M (i + 1) := by
  apply List.ext_getElem?
  intro t
  by_cases hit : i = t
  · subst hit
    rw [List.getElem?_set_self (by simp [rowAt]; exact h), rowAt, List.getElem?_map, List.getElem?_range h]
    simp
  · rw [List.getElem?_set_ne hit, rowAt, rowAt, List.getElem?_map, List.getElem?_map]
    by_cases ht : t < M
    · rw [List.getElem?_range ht]
      simp only [Option.map_some]
      by_cases h1 : t < i
      · rw [if_pos h1, if_pos (by omega)]
      · rw [if_neg h1, if_neg (by omega)]
    · rw [List.getElem?_eq_none (by simp; omega)]; rfl
theorem rowAt_length (M i : Nat) : (rowAt M i).length = M := by simp [rowAt]

set_option maxRecDepth 100000 in
set_option maxHeartbeats 4000000 in
theorem Room_law (more : Int) (twice : Bool) (w : World) (hn1 : -9223372036854775808 ≤ more) (hn2 : more ≤ 9223372036854775807) :
    Calls Try.prog 5 #[.int .i64 more, .bool twice] w (NetPost w) := by
  go_enter Try.func5, Try.ntmps5
  go_wp2_with fail
  refine (nalive_any _).mono ?_
  rintro e w1 ⟨rfl, hb1⟩
  by_cases hn0 : more < -2
  · go_wp2
    go_ret
    exact ⟨rfl, hb1⟩
  by_cases hn3 : 3 < more
  · go_wp2
    go_ret
    exact ⟨rfl, hb1⟩
  obtain ⟨M, hM⟩ : ∃ M : Nat, 10000 + more = (M : Int) := ⟨(10000 + more).toNat, by omega⟩
  have hM1 : 9998 ≤ M := by omega
  have hM2 : M ≤ 10003 := by omega
  go_wp2_with fail
  have hb2 : Below w.heap.size w (w1.alloc (.cells #[.slice none 0 0] 50)) := hb1.alloc hb1.size _
  have hL2 := NetAt.new w1
  have hg := hb1.size
  have hs2 : (w1.alloc (.cells #[.slice none 0 0] 50)).heap.size = w1.heap.size + 1 := by simp
  generalize w1.alloc (.cells #[.slice none 0 0] 50) = w2 at hb2 hL2 hs2 ⊢
  generalize w1.heap.size = g at hL2 hg hs2 ⊢
  clear hb1
  obtain ⟨w3, hmk, hO3, hb3⟩ := run_make_K tMessage (K := kMessage) (x := msgL 0 0 0 0) (z := .agg #[.int .i64 0, .int .i64 0, .int .i64 0, .int .i64 0, .int .i64 0, .int .i64 0, .slice none 0 0, .int .i64 0, .bool false, .int .i64 0, .slice none 0 0]) (by kernel_rfl) (fun _ _ => ⟨none, 0, none, 0, rfl, Nat.le_refl _, by omega, RS.nil, Nat.le_refl _, by omega, RS.nil⟩) w2 M (by omega) (by omega)
  rw [hmk]
  clear hmk
  rw [rowAt_zero] at hO3
  have hL3 := hL2.below hb3
  have hb3' : Below w.heap.size w w3 := hb2.trans (hb3.mono hb2.size)
  obtain ⟨H, hO3, hH⟩ : ∃ H : Foot, OwnS kMessage 54 w3 H (.slice (some ⟨w2.heap.size, 0, none⟩) M M) (rowAt M 0) ∧ ∀ j, H j → g < j := ⟨_, hO3, fun j hj => by have := hj.1; omega⟩
  have hgr : g < w2.heap.size := by omega
  generalize w2.heap.size = r at hO3 hgr ⊢
  have hHr : H r := hO3.choose_spec.2.2 r rfl
  clear hb3 hL2 hb2
  go_wp2_with fail
  go_loopw [8] (fun q wr => ∃ i : Nat, q = .int .i64 i ∧ i ≤ M ∧ NetAt wr g (fun k => k = g) [] ∧ OwnS kMessage 54 wr H (.slice (some ⟨r, 0, none⟩) M M) (rowAt M i) ∧ Below w.heap.size w wr) (fun q _ => M - (intOf q).toNat)
  case atStart => exact ⟨0, rfl, Nat.zero_le _, hL3, hO3, hb3'⟩
  case round =>
    obtain ⟨i, rfl, hi, hL, hO, hB⟩ := hrel
    by_cases hlt : i < M
    · obtain ⟨hrc, hrf, hrs⟩ : wr.cell? ⟨r, i * 11 + 3, none⟩ = some (.int .i64 0) ∧ wr.frozen? ⟨r, i * 11 + 3, none⟩ = false ∧ r < wr.heap.size := by
        obtain ⟨cc, hrep, hcell, hgl, _⟩ := (hO.split i).step (rowAt_at hlt)
        obtain ⟨A6, c6, A10, c10, rfl, _⟩ := hrep
        have hh := hcell 3 _ rfl
        exact ⟨hh.1, hh.2, hgl⟩
      go_wp2_with fail
      have hO7 := hO.setField (K := kMessage) (j := 3) (by show 3 < 11; omega) (rowAt_at hlt) (y := msgL 0 0 0 i) (u := .int .i64 i) (by
        rintro W F cs ⟨A6, c6, A10, c10, rfl, hrest⟩
        exact ⟨A6, c6, A10, c10, rfl, hrest⟩)
      rw [rowAt_set hlt] at hO7
      have hO7 : OwnS kMessage 54 (wr.setCell ⟨r, i * 11 + 3, none⟩ (.int .i64 i)) H (.slice (some ⟨r, 0, none⟩) M M) (rowAt M (i + 1)) := hO7
      have hkp : Keeps (fun j => j = r) wr (wr.setCell ⟨r, i * 11 + 3, none⟩ (.int .i64 i)) := (Keeps.refl (fun j => j = r) _).setCell (p := ⟨r, i * 11 + 3, none⟩) (fun _ => rfl) _
      have hL7 := hL.keeps hkp (fun j hj hr => by have : j = g := hj; have : j = r := hr; omega)
      have hB7 : Below w.heap.size w (wr.setCell ⟨r, i * 11 + 3, none⟩ (.int .i64 i)) := hB.setCell (p := ⟨r, i * 11 + 3, none⟩) (by simp only; omega) _
      generalize wr.setCell ⟨r, i * 11 + 3, none⟩ (.int .i64 i) = w7 at hO7 hL7 hB7 ⊢
      go_roundw
      case rel => exact ⟨i + 1, by go_num, by omega, hL7, hO7, hB7⟩
      case measure => simp [intOf]; omega
    · obtain rfl : i = M := by omega
      rw [rowAt_all] at hO
      obtain ⟨A', c', hv, _, _, hR⟩ := hO.reads
      simp only [Value.slice.injEq] at hv
      obtain ⟨rfl, hz, rfl⟩ := hv
      clear hz
      have hlen : (terms (List.range i)).length = i := by rw [terms_length, List.length_range]
      have hR2 := hR.bound
      rw [hlen] at hR2
      have hadd : netAdd [] (terms (List.range i)) = terms (List.range (if 10000 < i then 10000 else i)) := by
        rw [netAdd_eq _ _ (by simp)]
        simp only [List.nil_append, List.length_nil, Nat.sub_zero, terms, ← List.map_take]
        congr 1
        rw [List.take_range]
        congr 1
        split <;> omega
      obtain ⟨Q, hQ⟩ : ∃ Q, Hid ((if 10000 < i then 10000 else i) = Q) := ⟨_, rfl⟩
      rw [hQ.out] at hadd
      have hQ1 : 9998 ≤ Q ∧ Q ≤ 10000 := by rw [← hQ.out]; split <;> omega
      have Hadd := Lib.hid hadd
      have Hlen := Lib.hid hlen
      have HM := Lib.hid (And.intro hM (And.intro hM1 (And.intro hM2 hQ1)))
      have hib : i ≤ 1000000000 := by omega
      clear hadd hR hlen hM hM1 hM2 hQ1
      go_wp2_with fail
      obtain ⟨hM, hM1, hM2, hQ1⟩ := HM.out
      have hcall := Add_any_ g _ (fun k => H k ∧ k < wr.heap.size) [] (some ⟨r, 0, none⟩) i (terms (List.range i)) wr hL (by simp) (by rw [Hlen.out]; exact hR2) (by rw [Hlen.out]; omega) (terms_fits _) (.inr (fun j hj hk => by have : j = g := hk; have := hH j hj.1; omega)) (fun j hj => hj.2)
      rw [Hlen.out, Hadd.out] at hcall
      refine hcall.mono ?_
      rintro e w4 ⟨rfl, hL4, hK4⟩
      have hB4 : Below w.heap.size w w4 := hB.trans (hK4.below_of hB.size (fun j hj => by have : j = g := hj; omega))
      have hQl : (terms (List.range Q)).length = Q := by rw [terms_length, List.length_range]
      have HQl := Lib.hid hQl
      have hQc : (10000 < i ∧ Q = 10000) ∨ (i ≤ 10000 ∧ Q = i) := by
        rw [← hQ.out]
        by_cases h : 10000 < i
        · exact .inl ⟨h, if_pos h⟩
        · exact .inr ⟨by omega, if_neg h⟩
      clear hQl hO hO3 hL hR2 hL3 hcall
      have hQe : Hid (∃ G : Foot, NetAt w4 g G (terms (List.range Q)) ∧ ∀ j, G j → w.heap.size ≤ j) := ⟨_, hL4, fun j hj => by
        rcases hj with hj | hj
        · have : j = g := hj; omega
        · have := hj.1; have := hB.size; omega⟩
      clear hL4
      obtain ⟨G, hL4, hG⟩ := hQe.out
      clear hQe
      rcases hQc with ⟨hc1, hc2⟩ | ⟨hc1, hc2⟩
      · have Hc2 := Lib.hid hc2
        have e1 : ((Q : Int) != 10000) = false := by rw [bne_eq_false_iff_eq]; omega
        clear hc2
        go_wp2_with fail
        have hcall := Len_any g G (terms (List.range Q)) w4 hL4 (by rw [HQl.out]; omega)
        rw [HQl.out] at hcall
        refine hcall.mono ?_
        rintro e w5 ⟨rfl, rfl⟩
        clear hcall
        have hq9 : 9000 < Q := by omega
        have h90 : netIx 9000 Q = 9000 := by
          rw [netIx_small 9000 Q (by omega) (by omega), Int.emod_eq_of_lt (by omega) (by omega)]; rfl
        have h00 : netIx 0 Q = 0 := by
          rw [netIx_small 0 Q (by omega) (by omega), Int.zero_emod]; rfl
        have hm9 : (terms (List.range Q))[netIx 9000 (terms (List.range Q)).length]? = some (msgL 0 0 0 9000) := by
          rw [HQl.out, h90]; simp only [terms, List.getElem?_map]; rw [List.getElem?_range hq9]; rfl
        have hm0 : (terms (List.range Q))[netIx 0 (terms (List.range Q)).length]? = some (msgL 0 0 0 0) := by
          rw [HQl.out, h00]; simp only [terms, List.getElem?_map]; rw [List.getElem?_range (by omega)]; rfl
        have Hm := Lib.hid (And.intro hm9 hm0)
        have hte : ((terms (List.range Q)).eraseIdx (netIx 9000 (terms (List.range Q)).length)).length = Q - 1 := by
          rw [List.length_eraseIdx_of_lt (by rw [HQl.out, h90]; exact hq9), HQl.out]
        have Hte := Lib.hid hte
        clear hm9 hm0 hte h90 h00
        cases twice
        · go_wp2_with fail
          have hcall := Take_any g G (terms (List.range Q)) w5 9000 hL4 (by rw [HQl.out]; omega) Hm.out.1
          refine hcall.mono ?_
          clear hcall
          rintro e w6 ⟨A6, c6, A10, c10, rfl, hL6, hM6, hK6⟩
          simp only [msgL, List.length_nil]
          have hB6 : Below w.heap.size w w6 := hB4.trans (hK6.below_of hB4.size hG)
          go_wp2_with fail
          have hcall := Len_any g G _ (w6.alloc (.cells #[.int .i64 0, .int .i64 0, .int .i64 0, .int .i64 9000, .int .i64 0, .int .i64 0, .slice A6 0 c6, .int .i64 0, .bool false, .int .i64 0, .slice A10 0 c10] 54)) (hL6.below ((Below.refl _ _).alloc (Nat.le_refl _) _)) (by rw [Hte.out]; omega)
          rw [Hte.out] at hcall
          refine hcall.mono ?_
          clear hcall
          rintro e w7 ⟨rfl, rfl⟩
          have e2 : (((Q - 1 : Nat) : Int) == 9999) = true := by have := Hc2.out; rw [beq_iff_eq]; omega
          go_wp2_with fail
          go_ret
          exact ⟨rfl, hB6.alloc hB6.size _⟩
        · go_wp2_with fail
          have hcall := Twice_any g G (terms (List.range Q)) w5 0 hL4 (by rw [HQl.out]; omega) (terms_fits _) Hm.out.2
          refine hcall.mono ?_
          clear hcall
          rintro e w6 ⟨rfl, hL6, hK6⟩
          have hB6 : Below w.heap.size w w6 := hB4.trans (hK6.below_of hB4.size hG)
          have hnl : (netAdd (terms (List.range Q)) [msgL 0 0 0 0]).length = Q := by
            rw [netAdd_eq _ _ (by rw [HQl.out]; omega), HQl.out, show 10000 - Q = 0 by have := Hc2.out; omega, List.take_zero, List.append_nil, HQl.out]
          have Hnl := Lib.hid hnl
          clear hnl
          go_wp2_with fail
          have hcall := Len_any g _ _ w6 hL6 (by rw [Hnl.out]; omega)
          rw [Hnl.out] at hcall
          refine hcall.mono ?_
          clear hcall
          rintro e w7 ⟨rfl, rfl⟩
          have e2 : ((Q : Int) == 10000) = true := by have := Hc2.out; rw [beq_iff_eq]; omega
          go_wp2_with fail
          go_ret
          exact ⟨rfl, hB6⟩
      · subst hc2
        have e1 : ((Q : Int) != (Q : Int)) = false := by rw [bne_eq_false_iff_eq]
        go_wp2_with fail
        have hcall := Len_any g G (terms (List.range Q)) w4 hL4 (by rw [HQl.out]; omega)
        rw [HQl.out] at hcall
        refine hcall.mono ?_
        rintro e w5 ⟨rfl, rfl⟩
        clear hcall
        have hq9 : 9000 < Q := by omega
        have h90 : netIx 9000 Q = 9000 := by
          rw [netIx_small 9000 Q (by omega) (by omega), Int.emod_eq_of_lt (by omega) (by omega)]; rfl
        have h00 : netIx 0 Q = 0 := by
          rw [netIx_small 0 Q (by omega) (by omega), Int.zero_emod]; rfl
        have hm9 : (terms (List.range Q))[netIx 9000 (terms (List.range Q)).length]? = some (msgL 0 0 0 9000) := by
          rw [HQl.out, h90]; simp only [terms, List.getElem?_map]; rw [List.getElem?_range hq9]; rfl
        have hm0 : (terms (List.range Q))[netIx 0 (terms (List.range Q)).length]? = some (msgL 0 0 0 0) := by
          rw [HQl.out, h00]; simp only [terms, List.getElem?_map]; rw [List.getElem?_range (by omega)]; rfl
        have Hm := Lib.hid (And.intro hm9 hm0)
        have hte : ((terms (List.range Q)).eraseIdx (netIx 9000 (terms (List.range Q)).length)).length = Q - 1 := by
          rw [List.length_eraseIdx_of_lt (by rw [HQl.out, h90]; exact hq9), HQl.out]
        have Hte := Lib.hid hte
        clear hm9 hm0 hte h90 h00
        cases twice
        · go_wp2_with fail
          have hcall := Take_any g G (terms (List.range Q)) w5 9000 hL4 (by rw [HQl.out]; omega) Hm.out.1
          refine hcall.mono ?_
          clear hcall
          rintro e w6 ⟨A6, c6, A10, c10, rfl, hL6, hM6, hK6⟩
          simp only [msgL, List.length_nil]
          have hB6 : Below w.heap.size w w6 := hB4.trans (hK6.below_of hB4.size hG)
          go_wp2_with fail
          have hcall := Len_any g G _ (w6.alloc (.cells #[.int .i64 0, .int .i64 0, .int .i64 0, .int .i64 9000, .int .i64 0, .int .i64 0, .slice A6 0 c6, .int .i64 0, .bool false, .int .i64 0, .slice A10 0 c10] 54)) (hL6.below ((Below.refl _ _).alloc (Nat.le_refl _) _)) (by rw [Hte.out]; omega)
          rw [Hte.out] at hcall
          refine hcall.mono ?_
          clear hcall
          rintro e w7 ⟨rfl, rfl⟩
          have e2 : (((Q - 1 : Nat) : Int) == (Q : Int) - 1) = true := by rw [beq_iff_eq]; omega
          go_wp2_with fail
          go_ret
          exact ⟨rfl, hB6.alloc hB6.size _⟩
        · go_wp2_with fail
          have hcall := Twice_any g G (terms (List.range Q)) w5 0 hL4 (by rw [HQl.out]; omega) (terms_fits _) Hm.out.2
          refine hcall.mono ?_
          clear hcall
          rintro e w6 ⟨rfl, hL6, hK6⟩
          have hB6 : Below w.heap.size w w6 := hB4.trans (hK6.below_of hB4.size hG)
          by_cases hql : Q < 10000
          · have hnl : (netAdd (terms (List.range Q)) [msgL 0 0 0 0]).length = Q + 1 := by
              rw [netAdd_eq _ _ (by rw [HQl.out]; omega), HQl.out]
              obtain ⟨z, hz⟩ : ∃ z, 10000 - Q = z + 1 := ⟨10000 - Q - 1, by omega⟩
              rw [hz, List.take_succ_cons, List.take_nil, List.length_append, HQl.out]; rfl
            have Hnl := Lib.hid hnl
            clear hnl
            go_wp2_with fail
            have hcall := Len_any g _ _ w6 hL6 (by rw [Hnl.out]; omega)
            rw [Hnl.out] at hcall
            refine hcall.mono ?_
            clear hcall
            rintro e w7 ⟨rfl, rfl⟩
            have e2 : (((Q + 1 : Nat) : Int) == (Q : Int) + 1) = true := by rw [beq_iff_eq]; omega
            go_wp2_with fail
            go_ret
            exact ⟨rfl, hB6⟩
          · have hnl : (netAdd (terms (List.range Q)) [msgL 0 0 0 0]).length = Q := by
              rw [netAdd_eq _ _ (by rw [HQl.out]; omega), HQl.out, show 10000 - Q = 0 by omega, List.take_zero, List.append_nil, HQl.out]
            have Hnl := Lib.hid hnl
            clear hnl
            go_wp2_with fail
            have hcall := Len_any g _ _ w6 hL6 (by rw [Hnl.out]; omega)
            rw [Hnl.out] at hcall
            refine hcall.mono ?_
            clear hcall
            rintro e w7 ⟨rfl, rfl⟩
            go_wp2_with fail
            go_ret
            exact ⟨rfl, hB6⟩
end Go.Proofs.Ytngmipppgnlkdaa
