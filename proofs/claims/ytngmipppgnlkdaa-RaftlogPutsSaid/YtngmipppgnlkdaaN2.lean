/- The law RaftlogPuts, walked. -/
import Derived.Test.YtngmipppgnlkdaaN1
set_option linter.unusedVariables false
set_option linter.unusedSimpArgs false
namespace Go.Proofs.Ytngmipppgnlkdaa
open Go.RowKit
attribute [local go_sem] Same.cell

theorem putFrom_fin (s : LogS) (prev fin : Int) : ∀ (l : List Entry) (k : Int), (s.putFrom prev fin l k).1.2 = (fin, true)
  | [], _ => rfl
  | x :: rest, k => by
    unfold LogS.putFrom
    by_cases h : s.skips (prev + 1 + k) x = true
    · rw [if_pos h]; exact putFrom_fin s prev fin rest (k + 1)
    · rw [if_neg h]
theorem from_all (xs : List Entry) (m : Nat) (h : xs.length ≤ m) : LogS.From ⟨0, 0, xs⟩ 1 m = xs := by
  unfold LogS.From LogS.last
  by_cases h0 : xs.length = 0
  · rw [if_pos (by simp only; omega)]; exact (List.eq_nil_of_length_eq_zero h0).symm
  · rw [if_neg (by simp only; omega)]
    simp only
    rw [show ((1 : Int) - 0 - 1).toNat = 0 from rfl, List.drop_zero, List.take_of_length_le]
    show xs.length ≤ (m : Int).toNat
    omega

theorem acts2_reads {w : World} {F G : Foot} {A B : Option Addr} {c d : Nat} {xs ys : List Entry} (h : RS kEntry w F A xs.length xs) (hc : xs.length ≤ c) (hm : c ≤ 9223372036854775807)
    (h2 : RS kEntry w G B ys.length ys) (hc2 : ys.length ≤ d) (hm2 : d ≤ 9223372036854775807) :
    RS kLAct (w.alloc (.cells #[.int .i64 0, .int .i64 0, .int .i64 0, .slice A xs.length c, .int .i64 0, .int .i64 0, .int .i64 0, .slice B ys.length d] 26)) (fun k => (F k ∨ G k) ∨ k = w.heap.size) (some ⟨w.heap.size, 0, none⟩) 2 [(⟨0, 0, 0, xs⟩ : LAct), ⟨0, 0, 0, ys⟩] :=
  RS.lit w (xs := [(⟨0, 0, 0, xs⟩ : LAct), ⟨0, 0, 0, ys⟩]) (Elems.append (xs := [(⟨0, 0, 0, xs⟩ : LAct)]) (ys := [(⟨0, 0, 0, ys⟩ : LAct)]) (Elems.single (K := kLAct) ⟨A, c, rfl, hc, hm, h.mono fun _ hk => .inl hk⟩) (Elems.single (K := kLAct) ⟨B, d, rfl, hc2, hm2, h2.mono fun _ hk => .inr hk⟩))

set_option maxHeartbeats 1000000 in
theorem Puts_law (A B : Option Addr) (c d : Nat) (xs ys : List Entry) (n : Int) (w : World) (F G : Foot) (h : RS kEntry w F A xs.length xs) (hc : xs.length ≤ c) (hm : c ≤ 9223372036854775807)
    (h' : RS kEntry w G B ys.length ys) (hc' : ys.length ≤ d) (hm' : d ≤ 9223372036854775807) (hf : Fits xs) (hf' : Fits ys) (hn1 : -9223372036854775808 ≤ n) (hn2 : n ≤ 9223372036854775807) :
    Calls Try.prog 6 #[.slice A xs.length c, .slice B ys.length d, .int .i64 n] w (LawPost w) := by
  obtain ⟨hf1, hf2⟩ := hf
  obtain ⟨hf1', hf2'⟩ := hf'
  go_enter Try.func6, Try.ntmps6
  go_wp2_with fail
  refine (alive_any _).mono ?_
  rintro e w1 ⟨rfl, hb1⟩
  go_wp2_with fail
  have hb2 : Below w.heap.size w (w1.alloc (.cells #[.int .i64 0, .int .i64 0, .int .i64 0, .slice A xs.length c, .int .i64 0, .int .i64 0, .int .i64 0, .slice B ys.length d] 26)) := hb1.alloc hb1.size _
  have hr2 := acts2_reads (h.below hb1) hc hm (h'.below hb1) hc' hm'
  generalize w1.alloc (.cells #[.int .i64 0, .int .i64 0, .int .i64 0, .slice A xs.length c, .int .i64 0, .int .i64 0, .int .i64 0, .slice B ys.length d] 26) = w2 at hb2 hr2 ⊢
  refine (Big17_any _ _ _ _ _ _ hr2 (by omega) (by
    intro a ha x hx
    simp only [List.mem_cons, List.not_mem_nil, or_false] at ha
    rcases ha with rfl | rfl
    · have := hf2 x hx; omega
    · have := hf2' x hx; omega)).mono ?_
  rintro e w3 ⟨r, rfl, hr, hb23⟩
  have hb3 : Below w.heap.size w w3 := hb2.trans (hb23.mono hb2.size)
  have Hr := Lib.hid hr
  clear hr hb1 hb2 hr2 hb23
  cases r
  rotate_left
  · go_wp2
    go_ret
    exact ⟨rfl, hb3⟩
  obtain ⟨_, hsm⟩ := Hr.out rfl
  obtain ⟨hl12, _, _, hrec⟩ := hsm ⟨0, 0, 0, xs⟩ (by simp)
  obtain ⟨hk12, _, _, hrec'⟩ := hsm ⟨0, 0, 0, ys⟩ (by simp)
  have hl12 : xs.length ≤ 12 := hl12
  have hk12 : ys.length ≤ 12 := hk12
  have hrec : ∀ x ∈ xs, x.Cmd.Records.length ≤ 4 := fun x hx => (hrec x hx).2
  have hrec' : ∀ x ∈ ys, x.Cmd.Records.length ≤ 4 := fun x hx => (hrec' x hx).2
  clear hsm Hr
  by_cases hn0 : n < 0
  · go_wp2
    go_ret
    exact ⟨rfl, hb3⟩
  go_wp2
  have hb4 : Below w.heap.size w (w3.alloc (.cells #[.int .i64 0, .int .i64 0, .slice none 0 0] 29)) := hb3.alloc hb3.size _
  have hL4 := LogAt.new w3
  have hg := hb3.size
  generalize w3.alloc (.cells #[.int .i64 0, .int .i64 0, .slice none 0 0] 29) = w4 at hb4 hL4 ⊢
  generalize w3.heap.size = g at hL4 hg ⊢
  clear hb3
  go_loopw [10] (fun q wr => ∃ (k : Nat) (G : Foot), q = .int .i64 k ∧ k ≤ xs.length ∧ LogAt wr g G ⟨0, 0, xs.take k⟩ ∧ Below w.heap.size w wr ∧ (∀ j, G j → w.heap.size ≤ j)) (fun q _ => xs.length - (intOf q).toNat)
  case atStart => exact ⟨0, _, rfl, Nat.zero_le _, hL4, hb4, fun j hj => by omega⟩
  case round =>
    obtain ⟨k, G1, rfl, hk, hL, hB, hG⟩ := hrel
    have hok : LogS.Ok ⟨0, 0, xs.take k⟩ := ⟨Int.le_refl _, by simp only; omega, by simp only [List.length_take]; omega, fun x hx => by have := hrec x (List.mem_of_mem_take hx); omega⟩
    by_cases hlt : k < xs.length
    · obtain ⟨x, hxk⟩ : ∃ x, xs[k]? = some x := ⟨_, List.getElem?_eq_getElem hlt⟩
      obtain ⟨ad, A4, c4, hA0, hFa, k0, k1, k2, k3, k4, k5, k6, k7, k8, k9, k10, k11, k12, k13, l4, m4, r4⟩ := at_Entry (h.below hB) hxk
      have HA0 := Lib.hid hA0
      rw [hA0]
      clear hA0
      have hxr := hrec x (List.mem_of_getElem? hxk)
      have e1 : LogS.add ⟨0, 0, xs.take k⟩ x = ⟨0, 0, xs.take (k + 1)⟩ := by unfold LogS.add; simp only; rw [List.take_add_one, hxk]; rfl
      have E1 := Lib.hid e1
      have Hxk := Lib.hid hxk
      clear hxk e1
      go_wp2_with fail
      refine (Add_any g G1 F ⟨0, 0, xs.take k⟩ x A4 c4 wr hL hok (by simp only [List.length_take]; omega) l4 m4 r4 (by omega)).mono ?_
      rintro e w5 ⟨rfl, hL5, hk5⟩
      rw [E1.out] at hL5 ⊢
      go_wp2
      go_roundw
      case rel =>
        refine ⟨k + 1, _, by go_num, by omega, hL5, hB.trans (hk5.below_of hB.size hG), fun j hj => ?_⟩
        rcases hj with hj | hj
        · exact hG j hj
        · have := hB.size; omega
      case measure => simp [intOf]; omega
    · obtain rfl : k = xs.length := by omega
      rw [List.take_of_length_le (Nat.le_refl _)] at hL hok
      have ho := h.below hB
      obtain ⟨m, hmd⟩ : ∃ m : Nat, n % ((xs.length : Int) + 1) = (m : Int) := ⟨(n % ((xs.length : Int) + 1)).toNat, by have := Int.emod_nonneg n (show ((xs.length : Int) + 1) ≠ 0 by omega); omega⟩
      have hml : (m : Int) < xs.length + 1 := by rw [← hmd]; exact Int.emod_lt_of_pos _ (by omega)
      -- t: the term at m
      obtain ⟨t, ht⟩ : ∃ t : Int, Hid (((⟨0, 0, xs⟩ : LogS).Term m).1 = t) := ⟨_, rfl⟩
      have htr : ((⟨0, 0, xs⟩ : LogS).Term m).2 = true := by
        unfold LogS.Term LogS.last
        rw [if_neg (by simp only; omega)]
        split <;> rfl
      have hput : (⟨0, 0, xs⟩ : LogS).Put m t ys = (⟨0, 0, xs⟩ : LogS).putFrom m (m + ys.length) ys 0 := by
        unfold LogS.Put LogS.last
        rw [if_neg (by simp only; omega), if_neg (fun hh => hh.2 ht.out), if_neg (by simp only; omega)]
      have hfin := putFrom_fin ⟨0, 0, xs⟩ m (m + ys.length) ys 0
      obtain ⟨r, hR⟩ : ∃ r, Hid ((⟨0, 0, xs⟩ : LogS).putFrom m (m + ys.length) ys 0 = r) := ⟨_, rfl⟩
      rw [hR.out] at hput hfin
      obtain ⟨⟨fi, en, ok3⟩, s2⟩ := r
      simp only [Prod.mk.injEq] at hfin
      obtain ⟨rfl, rfl⟩ := hfin
      have Hput := Lib.hid hput
      clear hput
      have Htr := Lib.hid htr
      clear htr
      -- up to the call of Put
      have hcase : (m = 0 ∧ t = 0) ∨ ∃ x, 0 < m ∧ xs[m - 1]? = some x ∧ x.Term = t := by
        rcases Nat.eq_zero_or_pos m with h0 | h0
        · subst h0
          refine .inl ⟨rfl, ?_⟩
          have := ht.out
          unfold LogS.Term LogS.last at this
          rw [if_neg (by simp only; omega), if_pos (by simp only; omega)] at this
          exact this.symm
        · obtain ⟨x, hx⟩ : ∃ x, xs[m - 1]? = some x := ⟨_, List.getElem?_eq_getElem (by omega)⟩
          refine .inr ⟨x, h0, hx, ?_⟩
          have := ht.out
          unfold LogS.Term LogS.last at this
          rw [if_neg (by simp only; omega), if_neg (by simp only; omega)] at this
          simp only at this
          rw [show ((m : Int) - 0 - 1).toNat = m - 1 by omega, hx] at this
          exact this
      have hxn : xs.length ≤ 1000000000 := by omega
      have hgG := h'.below hB
      have hfact : ((m : Int) ≤ 0 ∧ t = 0) ∨ ∃ (x : Entry) (ad : Addr), (0 : Int) < m ∧ x.Term = t ∧ Hid (A = some ad) ∧ wr.cell? (ad.add ((m - 1) * 14)) = some (.int .i64 x.Term) := by
        rcases hcase with h1 | ⟨x, h1, h2, h3⟩
        · exact .inl ⟨by omega, h1.2⟩
        · obtain ⟨ad, A4, c4, hA0, hFa, k0, _⟩ := at_Entry ho h2
          exact .inr ⟨x, ad, by omega, h3, hA0, k0⟩
      clear hcase
      have e1 : ((m : Int) - 1).toNat = m - 1 := by omega
      rcases hfact with ⟨hm0, rfl⟩ | ⟨x, ad, hm0, rfl, HA0, k0⟩
      all_goals
        first | (rw [HA0.out]; have e2 : (0 : Int) ≤ (m : Int) - 1 := by omega
                 have e3 : (m : Int) - 1 < (xs.length : Int) := by omega) | skip
        go_wp2_with fail
        first | (rw [← HA0.out]; clear k0 HA0) | skip
        refine (Put_any g G1 G ⟨0, 0, xs⟩ wr m _ B ys.length d ys hL hok hgG (by omega) hc' (fun y hy => by have := hrec' y hy; omega)).mono ?_
        rintro e w6 ⟨rfl, hL6, hk6⟩
        rw [Hput.out] at hL6 ⊢
        have hb6 : Below w.heap.size w w6 := hB.trans (hk6.below_of hB.size hG)
        clear hL hk6
        go_wp2_with fail
        go_loopw [16] (fun q wr => ∃ k : Nat, q = .int .i64 k ∧ k ≤ ys.length ∧ m + k ≤ xs.length ∧ Below w6.heap.size w6 wr ∧ Hid ((⟨0, 0, xs⟩ : LogS).putFrom m (m + ys.length) (ys.drop k) k = ((fi, (m : Int) + (ys.length : Int), true), s2))) (fun q _ => ys.length - (intOf q).toNat)
        case atStart => exact ⟨0, rfl, Nat.zero_le _, by omega, Below.refl _ _, by rw [List.drop_zero]; exact hR⟩
        case round =>
          obtain ⟨k, rfl, hk, hmk, hB2, hP⟩ := hrel
          have hB0 : Below w.heap.size w wr := hb6.trans (hB2.mono hb6.size)
          have hL7 := hL6.below hB2
          by_cases hky : k < ys.length
          · obtain ⟨y, hyk⟩ : ∃ y, ys[k]? = some y := ⟨_, List.getElem?_eq_getElem hky⟩
            have hdrop : ys.drop k = y :: ys.drop (k + 1) := by rw [List.drop_eq_getElem_cons hky]; rw [List.getElem?_eq_getElem hky] at hyk; injection hyk with hyk; rw [hyk]
            obtain ⟨bd, B4, d4, hB1, hFb, l0, _⟩ := at_Entry (h'.below hB0) hyk
            cases hB1
            have Hyk := Lib.hid hyk
            clear hyk
            have hFL : LogS.last ⟨0, 0, xs⟩ = xs.length := by unfold LogS.last; simp only; omega
            rw [hdrop] at hP
            have HP := Lib.hid hP.out
            have Hdrop := Lib.hid hdrop
            clear hdrop hP
            have hcs : m + k = xs.length ∨ ∃ (x' : Entry) (ad' : Addr), m + k < xs.length ∧ Hid (xs[m + k]? = some x') ∧ Hid (A = some ad') ∧ wr.cell? (ad'.add ((m + k) * 14)) = some (.int .i64 x'.Term) := by
              by_cases hq : m + k = xs.length
              · exact .inl hq
              · obtain ⟨x', hx'⟩ : ∃ x', xs[m + k]? = some x' := ⟨_, List.getElem?_eq_getElem (by omega)⟩
                obtain ⟨ad', A5, c5, hA5, _, k5, _⟩ := at_Entry (h.below hB0) hx'
                exact .inr ⟨x', ad', by omega, hx', hA5, k5⟩
            have hstop : (∀ x', m + k < xs.length → xs[m + k]? = some x' → x'.Term ≠ y.Term) → fi = m + 1 + k ∧ s2 = ⟨0, 0, xs.take (m + k) ++ ys.drop k⟩ := by
              intro hno
              have hp := HP.out
              unfold LogS.putFrom at hp
              rw [if_neg ?_] at hp
              · simp only [Prod.mk.injEq] at hp
                refine ⟨hp.1.1.symm, ?_⟩
                rw [← hp.2, Hdrop.out]
                congr 2
                rw [show ((m : Int) + 1 + k - 0 - 1).toNat = m + k by omega]
              · unfold LogS.skips
                rw [decide_eq_false (by simp only; omega), Bool.false_or, Bool.and_eq_true, decide_eq_true_eq]
                rintro ⟨q1, q2⟩
                unfold LogS.Term at q1 q2
                rw [hFL] at q1 q2
                by_cases hq : (xs.length : Int) < m + 1 + k
                · rw [if_pos (.inr hq)] at q1; cases q1
                · rw [if_neg (by simp only; omega), if_neg (by simp only; omega)] at q2
                  simp only at q2
                  rw [show ((m : Int) + 1 + k - 0 - 1).toNat = m + k by omega] at q2
                  obtain ⟨x', hx'⟩ : ∃ x', xs[m + k]? = some x' := ⟨_, List.getElem?_eq_getElem (by omega)⟩
                  rw [hx'] at q2
                  exact hno x' (by omega) hx' q2
            have hgo : ∀ x', m + k < xs.length → xs[m + k]? = some x' → x'.Term = y.Term → (⟨0, 0, xs⟩ : LogS).putFrom m (m + ys.length) (ys.drop (k + 1)) ((k + 1 : Nat) : Int) = ((fi, (m : Int) + (ys.length : Int), true), s2) := by
              intro x' q1 q2 q3
              have hp := HP.out
              unfold LogS.putFrom at hp
              rw [if_pos ?_] at hp
              · rw [show ((k + 1 : Nat) : Int) = (k : Int) + 1 by omega]; exact hp
              · unfold LogS.skips LogS.Term
                rw [hFL, if_neg (by simp only; omega), if_neg (by simp only; omega)]
                simp only
                rw [show ((m : Int) + 1 + k - 0 - 1).toNat = m + k by omega, q2]
                simp [q3]
            have Hstop := Lib.hid hstop
            have Hgo := Lib.hid hgo
            clear hstop hgo HP Hput hR
            obtain ⟨j, hj⟩ : ∃ j : Nat, Hid (m + k = j) := ⟨_, rfl⟩
            have ej : (m : Int) + (k : Int) = (j : Int) := by have := hj.out; omega
            have ek : (k : Int) < (ys.length : Int) := by omega
            rw [hj.out] at hcs
            have hcs2 : ((∃ x', m + k < xs.length ∧ xs[m + k]? = some x' ∧ x'.Term = y.Term) ∧ ∃ (x' : Entry) (ad' : Addr), (j : Int) < xs.length ∧ A = some ad' ∧ wr.cell? (ad'.add (j * 14)) = some (.int .i64 x'.Term) ∧ x'.Term = y.Term) ∨
                (fi = m + 1 + k ∧ s2 = ⟨0, 0, xs.take (m + k) ++ ys.drop k⟩) ∧ (decide ((j : Int) < (xs.length : Int)) = false ∨ ∃ (x' : Entry) (ad' : Addr), (j : Int) < xs.length ∧ A = some ad' ∧ wr.cell? (ad'.add (j * 14)) = some (.int .i64 x'.Term) ∧ (x'.Term == y.Term) = false) := by
              rcases hcs with hcs | ⟨x', ad', q1, q2, q3, q4⟩
              · exact .inr ⟨Hstop.out (fun x' q => by have := hj.out; omega), .inl (decide_eq_false (by omega))⟩
              · by_cases ht : x'.Term = y.Term
                · exact .inl ⟨⟨x', by have := hj.out; omega, hj.out ▸ q2.out, ht⟩, x', ad', by omega, q3.out, q4, ht⟩
                · refine .inr ⟨Hstop.out (fun x'' _ q => ?_), .inr ⟨x', ad', by omega, q3.out, q4, by simpa using ht⟩⟩
                  rw [hj.out, q2.out] at q
                  injection q with q
                  exact q ▸ ht
            clear hcs
            rcases hcs2 with ⟨hg1, x', ad', q1, q3, q4, ht⟩ | ⟨⟨hfi, hs2⟩, hcs⟩
            · have Hg1 := Lib.hid hg1
              clear hg1
              cases q3
              rw [ht] at q4
              go_wp2
              go_quiet (fail)
              go_wp2
              go_roundw
              case rel =>
                obtain ⟨x', a1, a2, a3⟩ := Hg1.out
                exact ⟨k + 1, by go_num, by omega, by have := hj.out; omega, hB2.trans ((drawn_below wr nq).mono hB2.size), Hgo.out x' a1 a2 a3⟩
              case measure => simp [intOf]; omega
            · subst hs2
              have hfb : (fi != (j : Int) + 1) = false := by rw [bne_eq_false_iff_eq]; omega
              have hkb : ((k : Int) == (ys.length : Int)) = false := by rw [beq_eq_false_iff_ne]; omega
              have Hfi := Lib.hid hfi
              have hok8 : LogS.Ok ⟨0, 0, xs.take (m + k) ++ ys.drop k⟩ := by
                refine ⟨Int.le_refl _, by simp only; omega, by simp only [List.length_append, List.length_take, List.length_drop]; omega, fun x hx => ?_⟩
                rcases List.mem_append.1 hx with hx | hx
                · have := hrec x (List.mem_of_mem_take hx); omega
                · have := hrec' x (List.mem_of_mem_drop hx); omega
              have hFr := Lib.hid (from_all (xs.take (m + k) ++ ys.drop k) 100 (by simp only [List.length_append, List.length_take, List.length_drop]; omega))
              have hzs : ∀ x ∈ xs.take (m + k) ++ ys.drop k, x.Cmd.Records.length ≤ 140737488355328 := fun x hx => by have := hok8.r1 x hx; omega
              have hzl : (xs.take (m + k) ++ ys.drop k).length ≤ 140737488355328 := Nat.le_trans hok8.l1 (by decide)
              have hjl : j ≤ xs.length := by have := hj.out; omega
              have hLj : xs.take (m + k) ++ ys.drop k = xs.take j ++ ys.drop k := by rw [hj.out]
              have HLj := Lib.hid hLj
              clear hfi hLj Hstop Hgo
              have hcut1 := cut_hi tEntry .i64 A xs.length c j (by omega)
              obtain ⟨A', hcut2, hrs⟩ := cut_lo tEntry .i64 (some bd) ys.length d k (by omega)
              have HX := Lib.hid (h.take_ j hjl)
              have HY := Lib.hid (hrs kEntry _ _ _ rfl hc' h')
              clear hrs
              rcases hcs with hcs | ⟨x', ad', q1, q3, q4, ht⟩
              all_goals
                first | (have Hq3 := Lib.hid q3; rw [q3]; clear q3) | (have hcs1 : decide ((m : Int) + (k : Int) < (xs.length : Int)) = false := ej ▸ hcs; have hcs3 : decide (j < xs.length) = false := by have := of_decide_eq_false hcs; exact decide_eq_false (by omega))
                go_wp2
                go_quiet (fail)
                go_wp2_with fail
                first | rw [← Hq3.out] | skip
                have hb7 : Below w.heap.size w (wr.drewN nq) := hB0.trans ((drawn_below wr nq).mono hB0.size)
                have hL8 := hL7.drewN nq
                generalize wr.drewN nq = w7 at hb7 hL8 ⊢
                refine wp_region_plan [0, 0, 0, 0, 0, 1, 0, 0, 0, 1, 1] (fun w' => ∃ D : Same NoF w7, w' = D.world) (by kernel_rfl) (by kernel_rfl) InSame.start ?_
                simp only [sel, selE, Nat.reduceEqDiff, reduceIte]
                repeat (go_big_quiet_step (fail))
                refine wpQuiet_nil ?_
                refine wpE_cons (fun N hN => ?_)
                go_wp2_with (first
                  | (at_builtin
                     refine wpList_append_S rfl tEntry _ (.tmp 117) rfl (K := kEntry) (F := NoF) (v := .slice none 0 0) (xs := []) rfl rfl OwnS.nil ((HX.out.bound.below hb7).drew) (fun k hk => by simp [Value.ownBlock] at hk) ?_ ?_ ?_))
                · simp; omega
                · simp; omega
                intro v5 w5 hA5
                obtain ⟨A5, n5, c5, rfl⟩ := hA5.own.shape
                go_wp2
                have hb5 : Below w7.heap.size w7 w5 := below_undrew (((Keeps.refl NoF _).grown hA5.grown (by simp [Value.ownBlock])).below)
                refine hN _ _ (InSame.of_below hb5) ?_
                clear hN N
                refine wpE_cons (fun N hN => ?_)
                have hb05 : Below w.heap.size w w5 := hb7.trans (hb5.mono hb7.size)
                go_wp2_with (first
                  | (at_builtin
                     refine wpList_append_S rfl tEntry (.tmp 118) (.tmp 121) rfl (K := kEntry) rfl rfl hA5.own (HY.out.bound.below hb05) ?_ ?_ ?_ ?_))
                · intro k hk hk2
                  rcases hA5.lies k hk with h1 | h1
                  · simp [Value.ownBlock] at h1
                  · have := h1.1; have := hk2.2; have := hb7.size
                    rw [World.size_drew] at *
                    omega
                · simp; omega
                · simp; omega
                intro v6 w8 hA6
                obtain ⟨A6, c6, rfl, hl6, hm6, hr6⟩ := hA6.own.reads
                rw [← HLj.out] at hl6 hr6 ⊢
                obtain ⟨n6, hn6⟩ : ∃ n6, Hid ((xs.take (m + k) ++ ys.drop k).length = n6) := ⟨_, rfl⟩
                rw [hn6.out] at hl6 hr6 hzl ⊢
                go_wp2
                have hs5 := hb5.size
                have hb8 : Below w7.heap.size w7 w8 := by
                  refine hb5.grown hA6.grown hs5 ?_
                  intro k hk
                  rcases hA5.lies k hk with h1 | h1
                  · simp [Value.ownBlock] at h1
                  · exact h1.1
                refine hN _ _ (InSame.of_below hb8) ?_
                clear hN N
                refine wpE_cons (fun N hN => ?_)
                go_wp2
                refine hN _ _ (InSame.of_below hb8) ?_
                clear hN N
                refine wpE_nil ?_
                have hb08 : Below w.heap.size w w8 := hb7.trans (hb8.mono hb7.size)
                go_wp2_with fail
                refine (From_any g _ _ _ 1 100 (hL8.below hb8) hok8 (by omega)).mono ?_
                rintro e w9 ⟨v9, rfl, hM⟩
                rw [show (100 : Int) = ((100 : Nat) : Int) from rfl, hFr.out] at hM
                obtain ⟨A9, c9, rfl, hl9, hm9, hr9⟩ := hM.own.reads
                rw [hn6.out] at hl9 hr9 ⊢
                have hb9 : Below w.heap.size w w9 := hb08.trans (hM.below.mono hb08.size)
                go_wp2_with fail
                refine (SameEntries_any _ _ _ _ _ _ _ _ _ _ _ hr9 (hr6.below hM.below) hzl hzl hzs hzs).mono ?_
                rintro e w10 ⟨r, rfl, hr, hb10⟩
                obtain rfl : r = true := hr.2 rfl
                go_wp2
                go_ret
                exact ⟨rfl, hb9.trans (hb10.mono hb9.size)⟩
          · obtain rfl : k = ys.length := by omega
            rw [List.drop_length] at hP
            have hp := hP.out
            unfold LogS.putFrom at hp
            simp only [Prod.mk.injEq] at hp
            obtain ⟨⟨rfl, _⟩, rfl⟩ := hp
            have hFr := Lib.hid (from_all xs 100 (by omega))
            go_wp2
            go_quiet (fail)
            go_wp2_with fail
            refine (From_any g _ ⟨0, 0, xs⟩ _ 1 100 (hL7.drewN _) hok (by omega)).mono ?_
            rintro e w7 ⟨v7, rfl, hM⟩
            rw [show (100 : Int) = ((100 : Nat) : Int) from rfl, hFr.out] at hM
            obtain ⟨A7, c7, rfl, hl7, hm7, hr7⟩ := hM.own.reads
            have hb7 : Below w.heap.size w w7 := hB0.trans (((drawn_below wr nq).trans hM.below).mono hB0.size)
            go_wp2_with fail
            refine (SameEntries_any _ _ _ _ _ _ _ _ _ _ _ hr7 (h.below hb7) (by omega) (by omega) (fun x hx => by have := hrec x hx; omega) (fun x hx => by have := hrec x hx; omega)).mono ?_
            rintro e w8 ⟨r, rfl, hr, hb8⟩
            obtain rfl : r = true := hr.2 rfl
            go_wp2
            go_ret
            exact ⟨rfl, hb7.trans (hb8.mono hb7.size)⟩
end Go.Proofs.Ytngmipppgnlkdaa
