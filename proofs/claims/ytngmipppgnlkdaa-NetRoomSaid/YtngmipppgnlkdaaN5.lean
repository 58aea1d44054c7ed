/- The law NetTwice, walked. -/
import Derived.Test.YtngmipppgnlkdaaN4
set_option linter.unusedVariables false
set_option linter.unusedSimpArgs false
namespace Go.Proofs.Ytngmipppgnlkdaa
open Go.RowKit
attribute [local go_sem] Same.cell

theorem tInt : ElemT Try.prog 47 3 1 8 := ElemT.mk' (z := .int .i64 0) Try.underlying47 (by kernel_rfl) rfl
theorem count_erase (t : Nat) : ∀ (l : List Nat) (d : Nat) (x : Nat), l[d]? = some x → (l.eraseIdx d).count t + (if x = t then 1 else 0) = l.count t
  | [], d, x, h => by simp at h
  | y :: r, 0, x, h => by
    simp only [List.getElem?_cons_zero, Option.some.injEq] at h
    subst h
    simp only [List.eraseIdx_cons_zero, List.count_cons, beq_iff_eq]
  | y :: r, d + 1, x, h => by
    simp only [List.getElem?_cons_succ] at h
    have ih := count_erase t r d x h
    simp only [List.eraseIdx_cons_succ, List.count_cons, beq_iff_eq]
    omega
theorem count_snoc (l : List Nat) (x t : Nat) : (l ++ [x]).count t = l.count t + (if x = t then 1 else 0) := by
  rw [List.count_append]
  simp only [List.count_cons, List.count_nil, beq_iff_eq, Nat.zero_add]
theorem count_range_ (t : Nat) : ∀ N : Nat, (List.range N).count t = if t < N then 1 else 0
  | 0 => by simp
  | N + 1 => by
    rw [List.range_succ, count_snoc, count_range_ t N]
    by_cases h1 : t < N
    · rw [if_pos h1, if_neg (show ¬ N = t by omega), if_pos (show t < N + 1 by omega)]
    · rw [if_neg h1]
      by_cases h2 : N = t
      · rw [if_pos h2, if_pos (by omega)]
      · rw [if_neg h2, if_neg (by omega)]
theorem count_range (t N : Nat) (h : t < N) : (List.range N).count t = 1 := by rw [count_range_, if_pos h]
theorem netIx_small (i : Int) (n : Nat) (h0 : 0 ≤ i) (h1 : i ≤ 1152921504606846976) : netIx i n = (i % n).toNat := by
  unfold netIx
  rw [Int.emod_eq_of_lt h0 (by omega)]
set_option maxRecDepth 100000 in
set_option maxHeartbeats 4000000 in
theorem Twice_law (n at_ drop : Int) (w : World) (hn1 : -9223372036854775808 ≤ n) (hn2 : n ≤ 9223372036854775807) (ha1 : -9223372036854775808 ≤ at_) (ha2 : at_ ≤ 9223372036854775807) (hd1 : -9223372036854775808 ≤ drop) (hd2 : drop ≤ 9223372036854775807) :
    Calls Try.prog 7 #[.int .i64 n, .int .i64 at_, .int .i64 drop] w (NetPost w) := by
  go_enter Try.func7, Try.ntmps7
  go_wp2_with fail
  refine (nalive_any _).mono ?_
  rintro e w1 ⟨rfl, hb1⟩
  by_cases hn0 : n < 1
  · go_wp2
    go_ret
    exact ⟨rfl, hb1⟩
  by_cases hn40 : 40 < n
  · go_wp2
    go_ret
    exact ⟨rfl, hb1⟩
  by_cases hat0 : at_ < 0
  · go_wp2
    go_ret
    exact ⟨rfl, hb1⟩
  by_cases hdr0 : drop < 0
  · go_wp2
    go_ret
    exact ⟨rfl, hb1⟩
  by_cases hat1 : 1152921504606846976 < at_
  · go_wp2
    go_ret
    exact ⟨rfl, hb1⟩
  by_cases hdr1 : 1152921504606846976 < drop
  · go_wp2
    go_ret
    exact ⟨rfl, hb1⟩
  obtain ⟨N, rfl⟩ : ∃ N : Nat, n = (N : Int) := ⟨n.toNat, by omega⟩
  go_wp2_with fail
  have hb2 : Below w.heap.size w (w1.alloc (.cells #[.slice none 0 0] 50)) := hb1.alloc hb1.size _
  have hL2 := NetAt.new w1
  have hg := hb1.size
  generalize w1.alloc (.cells #[.slice none 0 0] 50) = w2 at hb2 hL2 ⊢
  generalize w1.heap.size = g at hL2 hg ⊢
  clear hb1
  go_loopw [9] (fun q wr => ∃ (k : Nat) (G : Foot), q = .int .i64 k ∧ k ≤ N ∧ NetAt wr g G (terms (List.range k)) ∧ Below w.heap.size w wr ∧ (∀ j, G j → w.heap.size ≤ j)) (fun q _ => N - (intOf q).toNat)
  case atStart => exact ⟨0, _, rfl, Nat.zero_le _, hL2, hb2, fun j hj => by omega⟩
  case round =>
    obtain ⟨k, G, rfl, hk, hL, hB, hG⟩ := hrel
    have hlen : (terms (List.range k)).length = k := by rw [terms_length, List.length_range]
    by_cases hlt : k < N
    · go_wp2_with fail
      have hr3 := lit_msg wr 0 0 0 k
      have hb3 : Below w.heap.size w (wr.alloc (.cells #[.int .i64 0, .int .i64 0, .int .i64 0, .int .i64 k, .int .i64 0, .int .i64 0, .slice none 0 0, .int .i64 0, .bool false, .int .i64 0, .slice none 0 0] 54)) := hB.alloc hB.size _
      have hL3 := hL.below ((Below.refl wr.heap.size wr).alloc (Nat.le_refl _) (.cells #[.int .i64 0, .int .i64 0, .int .i64 0, .int .i64 k, .int .i64 0, .int .i64 0, .slice none 0 0, .int .i64 0, .bool false, .int .i64 0, .slice none 0 0] 54))
      have hs3 : (wr.alloc (.cells #[.int .i64 0, .int .i64 0, .int .i64 0, .int .i64 k, .int .i64 0, .int .i64 0, .slice none 0 0, .int .i64 0, .bool false, .int .i64 0, .slice none 0 0] 54)).heap.size = wr.heap.size + 1 := by simp
      have hsr := hB.size
      generalize wr.alloc (.cells #[.int .i64 0, .int .i64 0, .int .i64 0, .int .i64 k, .int .i64 0, .int .i64 0, .slice none 0 0, .int .i64 0, .bool false, .int .i64 0, .slice none 0 0] 54) = w3 at hr3 hb3 hL3 hs3 ⊢
      refine (Add_any_ g G _ (terms (List.range k)) _ _ [msgL 0 0 0 k] w3 hL3 (by omega) hr3 (by simp) (fun x hx => by simp at hx; subst hx; exact msgL_fits _ _ _ _) (.inl (by simp)) (fun j hj => by omega)).mono ?_
      rintro e w4 ⟨rfl, hL4, hk4⟩
      rw [terms_add _ _ (by rw [List.length_range]; omega), ← List.range_succ] at hL4
      go_wp2
      go_roundw
      case rel =>
        refine ⟨k + 1, _, by go_num, by omega, hL4, hb3.trans (hk4.below_of hb3.size hG), fun j hj => ?_⟩
        rcases hj with hj | hj
        · exact hG j hj
        · omega
      case measure => simp [intOf]; omega
    · obtain rfl : k = N := by omega
      obtain ⟨a, had⟩ : ∃ a : Nat, at_ % (k : Int) = (a : Int) := ⟨(at_ % (k : Int)).toNat, by have := Int.emod_nonneg at_ (show (k : Int) ≠ 0 by omega); omega⟩
      have hak : (a : Int) < k := by rw [← had]; exact Int.emod_lt_of_pos _ (by omega)
      obtain ⟨d, hdd⟩ : ∃ d : Nat, drop % ((k : Int) + 1) = (d : Int) := ⟨(drop % ((k : Int) + 1)).toNat, by have := Int.emod_nonneg drop (show (k : Int) + 1 ≠ 0 by omega); omega⟩
      have hdk : (d : Int) < (k : Int) + 1 := by rw [← hdd]; exact Int.emod_lt_of_pos _ (by omega)
      have hixa : netIx at_ (terms (List.range k)).length = a := by rw [hlen, netIx_small _ _ (by omega) (by omega), had]; rfl
      have hma : (terms (List.range k))[netIx at_ (terms (List.range k)).length]? = some (msgL 0 0 0 a) := by
        rw [hixa]; simp only [terms, List.getElem?_map]
        rw [List.getElem?_range (by omega)]; rfl
      have hl2 : (terms (List.range k ++ [a])).length = k + 1 := by rw [terms_length]; simp
      have hixd : netIx drop (terms (List.range k ++ [a])).length = d := by
        rw [hl2, netIx_small _ _ (by omega) (by omega), show ((k + 1 : Nat) : Int) = (k : Int) + 1 by omega, hdd]; rfl
      have Hix := Lib.hid (And.intro hma hixd)
      clear hma hixd hixa
      go_wp2_with fail
      refine (Twice_any g G (terms (List.range k)) wr at_ hL (by omega) (terms_fits _) Hix.out.1).mono ?_
      rintro e w3 ⟨rfl, hL3, hK3⟩
      rw [terms_add _ _ (by rw [List.length_range]; omega)] at hL3
      have hB3 : Below w.heap.size w w3 := hB.trans (hK3.below_of hB.size hG)
      have hsr := hB.size
      have hG3 : ∀ j, Grow G wr w3 j → w.heap.size ≤ j := fun j hj => by
        rcases hj with hj | hj
        · exact hG j hj
        · omega
      go_wp2_with fail
      refine (Drop_any g _ (terms (List.range k ++ [a])) w3 drop hL3 (by omega) (by omega)).mono ?_
      rintro e w4 ⟨rfl, hL4, hK4⟩
      rw [Hix.out.2, terms_erase] at hL4
      have hB4 : Below w.heap.size w w4 := hB3.trans (hK4.below_of hB3.size hG3)
      obtain ⟨ts, hts⟩ : ∃ ts, Hid ((List.range k ++ [a]).eraseIdx d = ts) := ⟨_, rfl⟩
      rw [hts.out] at hL4
      have htl : ts.length = k := by
        rw [← hts.out, List.length_eraseIdx_of_lt (by simp; omega)]; simp
      have htk : ∀ t ∈ ts, t < k := fun t ht => by
        rw [← hts.out] at ht
        have := List.mem_of_mem_eraseIdx ht
        rcases List.mem_append.1 this with h | h
        · exact List.mem_range.1 h
        · simp at h; omega
      have htc : ∀ t, t < k → ((ts.count t : Nat) : Int) = 1 + (if a = t then 1 else 0) - (if (if d = k then a else d) = t then 1 else 0) := fun t ht => by
        have hx : (List.range k ++ [a])[d]? = some (if d = k then a else d) := by
          by_cases hdk2 : d = k
          · rw [if_pos hdk2, hdk2, List.getElem?_append_right (by simp)]; simp
          · rw [if_neg hdk2, List.getElem?_append_left (by simp; omega), List.getElem?_range (by omega)]
        have h1 := count_erase t _ d _ hx
        rw [hts.out, count_snoc, count_range t k ht] at h1
        generalize (if d = k then a else d) = gg at h1 ⊢
        by_cases h2 : gg = t <;> by_cases h3 : a = t <;> simp only [h2, h3, if_true, if_false] at h1 ⊢ <;> omega
      have Htc := Lib.hid htc
      clear htc Hix hK3 hK4 hlen hl2
      go_wp2_with fail
      obtain ⟨w5, hmk, hO5, hb5⟩ := run_make_S tInt (K := kInt .i64) rfl (x := (0 : Int)) (z := .int .i64 0) (by kernel_rfl) rfl (fun _ _ => rfl) w4 k (by omega) (by omega)
      rw [hmk]
      clear hmk
      obtain ⟨G', hLb, hGr⟩ : ∃ G' : Foot, NetAt w5 g G' (terms ts) ∧ ∀ j, G' j → w.heap.size ≤ j ∧ j ≠ w4.heap.size :=
        ⟨_, hL4.bound.below hb5, fun j hj => ⟨hG3 j hj.1, by have := hj.2; omega⟩⟩
      have hO5 : OwnS (kInt .i64) 3 w5 (fun j => j = w4.heap.size) (.slice (some ⟨w4.heap.size, 0, none⟩) k k) (List.replicate k (0 : Int)) := hO5.flat (flat_int _) (fun j hj => by simpa [Value.ownBlock] using hj.symm)
      have hb5' : Below w.heap.size w w5 := hB4.trans (hb5.mono hB4.size)
      have hwr := hB4.size
      generalize w4.heap.size = r at hO5 hGr hwr ⊢
      clear hL hB hG hb5 hL3 hL4 hG3 hB3 hB4
      go_wp2_with fail
      go_loopw [15] (fun q wr => ∃ (i : Nat) (cs : List Int), q = .int .i64 i ∧ i ≤ k ∧ NetAt wr g G' (terms (ts.drop i)) ∧ OwnS (kInt .i64) 3 wr (fun j => j = r) (.slice (some ⟨r, 0, none⟩) k k) cs ∧ Below w.heap.size w wr ∧
        Hid (cs.length = k ∧ ∀ t, t < k → cs[t]? = some (((ts.take i).count t : Nat) : Int))) (fun q _ => k - (intOf q).toNat)
      case atStart => exact ⟨0, _, rfl, Nat.zero_le _, hLb, hO5, hb5', ⟨by simp, fun t ht => by rw [List.getElem?_replicate, if_pos ht]; rfl⟩⟩
      case round =>
        obtain ⟨i, cs, rfl, hi, hL, hO, hB, hP⟩ := hrel
        by_cases hlt2 : i < k
        · obtain ⟨t, ht⟩ : ∃ t, ts[i]? = some t := ⟨_, List.getElem?_eq_getElem (by omega)⟩
          have htlt := htk t (List.mem_of_getElem? ht)
          have hct := hP.out.2 t htlt
          obtain ⟨c, hcc⟩ : ∃ c : Nat, Hid ((ts.take i).count t = c) := ⟨_, rfl⟩
          rw [hcc.out] at hct
          have hc40 : c ≤ 40 := by
            have h1 := List.count_le_length (a := t) (l := ts.take i)
            rw [hcc.out, List.length_take] at h1
            omega
          have hnext : (cs.set t ((c : Int) + 1)).length = k ∧ ∀ x, x < k → (cs.set t ((c : Int) + 1))[x]? = some (((ts.take (i + 1)).count x : Nat) : Int) := by
            refine ⟨by rw [List.length_set]; exact hP.out.1, fun x hx => ?_⟩
            have e1 : ts.take (i + 1) = ts.take i ++ [t] := by rw [List.take_add_one, ht]; rfl
            rw [e1, count_snoc]
            by_cases hxt : t = x
            · subst hxt
              rw [List.getElem?_set_self (by rw [hP.out.1]; exact hx), hcc.out, if_pos rfl]; rfl
            · rw [List.getElem?_set_ne hxt, hP.out.2 x hx, if_neg hxt, Nat.add_zero]
          have Hnext := Lib.hid hnext
          have hdl : 0 < (terms (ts.drop i)).length := by rw [terms_length, List.length_drop]; omega
          have h0 : netIx 0 (terms (ts.drop i)).length = 0 := by unfold netIx; simp
          have hm0 : (terms (ts.drop i))[netIx 0 (terms (ts.drop i)).length]? = some (msgL 0 0 0 t) := by
            rw [h0]; simp only [terms, List.getElem?_map, List.getElem?_drop, Nat.add_zero, ht]; rfl
          have hle : (terms (ts.drop i)).length ≤ 1000000000 := by rw [terms_length, List.length_drop]; omega
          have herase : (terms (ts.drop i)).eraseIdx (netIx 0 (terms (ts.drop i)).length) = terms (ts.drop (i + 1)) := by
            rw [h0, terms_erase, List.eraseIdx_zero, List.tail_drop]
          have He := Lib.hid herase
          clear hnext ht h0 herase
          go_wp2_with fail
          refine (Take_any g G' (terms (ts.drop i)) wr 0 hL hle hm0).mono ?_
          rintro e w6 ⟨A6, c6, A10, c10, rfl, hL6, hM6, hK6⟩
          rw [He.out] at hL6
          simp only [msgL, List.length_nil]
          have hO6 : OwnS (kInt .i64) 3 w6 (fun j => j = r) (.slice (some ⟨r, 0, none⟩) k k) cs := hO.keeps hK6 (fun j hj hg => (hGr j hg).2 hj)
          have hB6 : Below w.heap.size w w6 := hB.trans (hK6.below_of hB.size fun j hj => (hGr j hj).1)
          clear hm0
          obtain ⟨hrc, hrf, hrs⟩ : w6.cell? ⟨r, t, none⟩ = some (.int .i64 c) ∧ w6.frozen? ⟨r, t, none⟩ = false ∧ r < w6.heap.size := by
            obtain ⟨cc, hrep, hcell, hgl, _⟩ := (hO6.split t).step hct
            have hrep : cc = [.int .i64 c] := hrep
            subst hrep
            have hh := hcell 0 _ rfl
            have e1 : t * (kInt .i64).size + 0 = t := by show t * 1 + 0 = t; omega
            rw [e1] at hh
            exact ⟨hh.1, hh.2, hgl⟩
          go_wp2_with fail
          have hO7 := hO6.set1 (i := t) rfl (flat_int _) htlt (x := (c : Int) + 1) (u := .int .i64 ((c : Int) + 1)) (fun _ _ => rfl)
          have hkp : Keeps (fun j => j = r) w6 (w6.setCell ⟨r, t, none⟩ (.int .i64 ((c : Int) + 1))) := (Keeps.refl (fun j => j = r) _).setCell (p := ⟨r, t, none⟩) (fun _ => rfl) _
          have hL7 := hL6.keeps hkp (fun j hj hr => (hGr j hj).2 hr)
          have hB7 : Below w.heap.size w (w6.setCell ⟨r, t, none⟩ (.int .i64 ((c : Int) + 1))) := hB6.setCell (p := ⟨r, t, none⟩) hwr _
          generalize w6.setCell ⟨r, t, none⟩ (.int .i64 ((c : Int) + 1)) = w7 at hO7 hL7 hB7 ⊢
          have hb8 : Below w7.heap.size w7 (w7.alloc (.cells #[.int .i64 0, .int .i64 0, .int .i64 0, .int .i64 t, .int .i64 0, .int .i64 0, .slice A6 0 c6, .int .i64 0, .bool false, .int .i64 0, .slice A10 0 c10] 54)) := (Below.refl _ _).alloc (Nat.le_refl _) _
          generalize w7.alloc (.cells #[.int .i64 0, .int .i64 0, .int .i64 0, .int .i64 t, .int .i64 0, .int .i64 0, .slice A6 0 c6, .int .i64 0, .bool false, .int .i64 0, .slice A10 0 c10] 54) = w8 at hb8 ⊢
          go_roundw
          case rel =>
            exact ⟨i + 1, _, by go_num, by omega, hL7.below hb8, hO7.below hb8, hB7.trans (hb8.mono hB7.size), Hnext.out⟩
          case measure => simp [intOf]; omega
        · obtain rfl : i = k := by omega
          rw [List.drop_of_length_le (by omega)] at hL
          have hP2 := hP.out
          rw [List.take_of_length_le (by omega)] at hP2
          have HP2 := Lib.hid hP2
          clear hP hP2
          go_wp2_with fail
          refine (Take_none g G' wr 0 hL).mono ?_
          rintro e w6 ⟨rfl, hb6⟩
          have hb7 : Below w.heap.size w w6 := hB.trans (hb6.mono hB.size)
          have hO7 := hO.below hb6
          by_cases hdk3 : (d : Int) = i
          · first | (have hdb : ((d : Int) == (i : Int)) = true := by simpa using hdk3) | (have hdb : ((d : Int) == (i : Int)) = false := by simpa using hdk3)
            have Hdk := Lib.hid hdk3
            clear hdk3
            go_wp2_with fail
            have hb8 : Below w.heap.size w (w6.alloc (.cells #[.int .i64 0, .int .i64 0, .int .i64 0, .int .i64 0, .int .i64 0, .int .i64 0, .slice none 0 0, .int .i64 0, .bool false, .int .i64 0, .slice none 0 0] 54)) := hb7.alloc hb7.size _
            have hO8 := hO7.below ((Below.refl w6.heap.size w6).alloc (Nat.le_refl _) (.cells #[.int .i64 0, .int .i64 0, .int .i64 0, .int .i64 0, .int .i64 0, .int .i64 0, .slice none 0 0, .int .i64 0, .bool false, .int .i64 0, .slice none 0 0] 54))
            generalize w6.alloc (.cells #[.int .i64 0, .int .i64 0, .int .i64 0, .int .i64 0, .int .i64 0, .int .i64 0, .slice none 0 0, .int .i64 0, .bool false, .int .i64 0, .slice none 0 0] 54) = w8 at hb8 hO8 ⊢
            go_loopw [21] (fun q wr => ∃ (j : Nat), q = .int .i64 j ∧ j ≤ i ∧ wr = w8) (fun q _ => i - (intOf q).toNat)
            case atStart => exact ⟨0, rfl, Nat.zero_le _, rfl⟩
            case round =>
              obtain ⟨j, rfl, hj, rfl⟩ := hrel
              by_cases hlt3 : j < i
              · have hcj := HP2.out.2 j hlt3
                have hwant := Htc.out j hlt3
                rw [hwant] at hcj
                clear hwant
                first | rw [if_pos (show d = i by have := Hdk.out; omega)] at hcj | rw [if_neg (show ¬ d = i by have := Hdk.out; omega)] at hcj
                have hv : ∃ v : Int, cs[j]? = some v ∧ v = 1 + (if a = j then 1 else 0) - (if a = j then 1 else 0) := ⟨_, hcj, rfl⟩
                clear hcj
                obtain ⟨v, hcj, hv⟩ := hv
                obtain ⟨hrc, hrf⟩ : wr.cell? ⟨r, j, none⟩ = some (.int .i64 v) ∧ wr.frozen? ⟨r, j, none⟩ = false := by
                  obtain ⟨cc, hrep, hcell, hgl, _⟩ := (hO8.split j).step hcj
                  have hrep : cc = [.int .i64 v] := hrep
                  subst hrep
                  have hh := hcell 0 _ rfl
                  have e1 : j * (kInt .i64).size + 0 = j := by show j * 1 + 0 = j; omega
                  rw [e1] at hh
                  exact ⟨hh.1, hh.2⟩
                by_cases ha : a = j <;> by_cases hd : d = j
                all_goals
                  first | (have e1 : ((j : Int) == (a : Int)) = true := by simp [ha]) | (have e1 : ((j : Int) == (a : Int)) = false := by simp; omega)
                  first | (have e2 : ((j : Int) == (d : Int)) = true := by simp [hd]) | (have e2 : ((j : Int) == (d : Int)) = false := by simp; omega)
                  simp only [ha, hd, if_true, if_false, reduceIte, Int.reduceAdd, Int.reduceSub] at hv
                  subst hv
                  have Had := Lib.hid (And.intro ha hd)
                  clear ha hd
                  go_wp2
                  go_roundw
                  case rel => exact ⟨j + 1, by go_num, by omega, by trivial⟩
                  case measure => simp [intOf]; omega
              · obtain rfl : j = i := by omega
                go_wp2
                go_ret
                exact ⟨rfl, hb8⟩
          · first | (have hdb : ((d : Int) == (i : Int)) = true := by simpa using hdk3) | (have hdb : ((d : Int) == (i : Int)) = false := by simpa using hdk3)
            have Hdk := Lib.hid hdk3
            clear hdk3
            go_wp2_with fail
            have hb8 : Below w.heap.size w (w6.alloc (.cells #[.int .i64 0, .int .i64 0, .int .i64 0, .int .i64 0, .int .i64 0, .int .i64 0, .slice none 0 0, .int .i64 0, .bool false, .int .i64 0, .slice none 0 0] 54)) := hb7.alloc hb7.size _
            have hO8 := hO7.below ((Below.refl w6.heap.size w6).alloc (Nat.le_refl _) (.cells #[.int .i64 0, .int .i64 0, .int .i64 0, .int .i64 0, .int .i64 0, .int .i64 0, .slice none 0 0, .int .i64 0, .bool false, .int .i64 0, .slice none 0 0] 54))
            generalize w6.alloc (.cells #[.int .i64 0, .int .i64 0, .int .i64 0, .int .i64 0, .int .i64 0, .int .i64 0, .slice none 0 0, .int .i64 0, .bool false, .int .i64 0, .slice none 0 0] 54) = w8 at hb8 hO8 ⊢
            go_loopw [21] (fun q wr => ∃ (j : Nat), q = .int .i64 j ∧ j ≤ i ∧ wr = w8) (fun q _ => i - (intOf q).toNat)
            case atStart => exact ⟨0, rfl, Nat.zero_le _, rfl⟩
            case round =>
              obtain ⟨j, rfl, hj, rfl⟩ := hrel
              by_cases hlt3 : j < i
              · have hcj := HP2.out.2 j hlt3
                have hwant := Htc.out j hlt3
                rw [hwant] at hcj
                clear hwant
                first | rw [if_pos (show d = i by have := Hdk.out; omega)] at hcj | rw [if_neg (show ¬ d = i by have := Hdk.out; omega)] at hcj
                have hv : ∃ v : Int, cs[j]? = some v ∧ v = 1 + (if a = j then 1 else 0) - (if d = j then 1 else 0) := ⟨_, hcj, rfl⟩
                clear hcj
                obtain ⟨v, hcj, hv⟩ := hv
                obtain ⟨hrc, hrf⟩ : wr.cell? ⟨r, j, none⟩ = some (.int .i64 v) ∧ wr.frozen? ⟨r, j, none⟩ = false := by
                  obtain ⟨cc, hrep, hcell, hgl, _⟩ := (hO8.split j).step hcj
                  have hrep : cc = [.int .i64 v] := hrep
                  subst hrep
                  have hh := hcell 0 _ rfl
                  have e1 : j * (kInt .i64).size + 0 = j := by show j * 1 + 0 = j; omega
                  rw [e1] at hh
                  exact ⟨hh.1, hh.2⟩
                by_cases ha : a = j <;> by_cases hd : d = j
                all_goals
                  first | (have e1 : ((j : Int) == (a : Int)) = true := by simp [ha]) | (have e1 : ((j : Int) == (a : Int)) = false := by simp; omega)
                  first | (have e2 : ((j : Int) == (d : Int)) = true := by simp [hd]) | (have e2 : ((j : Int) == (d : Int)) = false := by simp; omega)
                  simp only [ha, hd, if_true, if_false, reduceIte, Int.reduceAdd, Int.reduceSub] at hv
                  subst hv
                  have Had := Lib.hid (And.intro ha hd)
                  clear ha hd
                  go_wp2
                  go_roundw
                  case rel => exact ⟨j + 1, by go_num, by omega, by trivial⟩
                  case measure => simp [intOf]; omega
              · obtain rfl : j = i := by omega
                go_wp2
                go_ret
                exact ⟨rfl, hb8⟩
end Go.Proofs.Ytngmipppgnlkdaa
