/- The law NetPlays, walked. -/
import Derived.Test.YtngmipppgnlkdaaZ9
import Derived.Test.YtngmipppgnlkdaaN4
set_option linter.unusedVariables false
set_option linter.unusedSimpArgs false
namespace Go.Proofs.Ytngmipppgnlkdaa
open Go.RowKit
attribute [local go_sem] Same.cell

/-- Lengths that the memory bears. -/
def Message.Lean_ (m : Message) : Prop := m.Entries.length ≤ 140737488355328 ∧ m.Data.length ≤ 140737488355328 ∧ ∀ x ∈ m.Entries, x.Cmd.Records.length ≤ 140737488355328
theorem netAdd_fits : ∀ (a l : List Message), (∀ m ∈ l, m.Fits) → (∀ m ∈ a, m.Fits) → ∀ m ∈ netAdd l a, m.Fits
  | [], l, h, _ => h
  | x :: r, l, h, h' => by
    unfold netAdd
    refine netAdd_fits r _ ?_ fun m hm => h' m (List.mem_cons_of_mem _ hm)
    split
    · intro m hm
      rcases List.mem_append.1 hm with hm | hm
      · exact h m hm
      · rw [List.mem_singleton] at hm; subst hm; exact h' _ (List.mem_cons_self ..)
    · exact h

set_option maxRecDepth 100000 in
set_option maxHeartbeats 8000000 in
theorem NetPlays_law (A : Option Addr) (c : Nat) (ts : List NAct) (w : World) (F : Foot) (h : RS kNAct w F A ts.length ts) (hc : ts.length ≤ c) (hl : ts.length ≤ 140737488355328) (hL : ∀ a ∈ ts, a.L.length ≤ 140737488355328 ∧ ∀ m ∈ a.L, m.Lean_) :
    Calls Try.prog 8 #[.slice A ts.length c] w (NetPost w) := by
  go_enter Try.func8, Try.ntmps8
  go_wp2_with fail
  refine (nalive_any _).mono ?_
  rintro e w1 ⟨rfl, hb1⟩
  by_cases h60 : 60 < ts.length
  · go_wp2
    go_ret
    exact ⟨rfl, hb1⟩
  go_wp2
  go_loopw [4] (fun q wr => ∃ k : Nat, q = .int .i64 k ∧ k ≤ ts.length ∧ Hid (∀ (j : Nat) (a : NAct), j < k → ts[j]? = some a → a.L.length ≤ 11 ∧ ∀ m ∈ a.L, m.Fits) ∧ Below w.heap.size w wr) (fun q _ => ts.length - (intOf q).toNat)
  case atStart => exact ⟨0, rfl, Nat.zero_le _, fun j a h => absurd h (by omega), hb1⟩
  case round =>
    obtain ⟨k, rfl, hk, hE, hB⟩ := hrel
    by_cases hlt : k < ts.length
    · obtain ⟨a, hak⟩ : ∃ a, ts[k]? = some a := ⟨_, List.getElem?_eq_getElem hlt⟩
      obtain ⟨hL1, hL2⟩ := hL a (List.mem_of_getElem? hak)
      have Hak := Lib.hid hak
      clear hak
      go_wp2
      go_loopw [5] (fun q wq => ∃ p : Nat, q = .int .i64 p ∧ p ≤ a.L.length ∧ p ≤ 11 ∧ Hid (∀ j x, j < p → a.L[j]? = some x → x.Fits) ∧ Below w.heap.size w wq) (fun q _ => a.L.length - (intOf q).toNat)
      case atStart => exact ⟨0, rfl, Nat.zero_le _, by omega, fun j x h => absurd h (by omega), hB⟩
      case round =>
        obtain ⟨p, rfl, hp, hp11, hQ, hC⟩ := hrel
        obtain ⟨ad, A2, c2, hA0, hFa, k0, k1, k2, l2, m2, r2⟩ := at_NAct (h.below hC) Hak.out
        subst hA0
        by_cases hpl : p < a.L.length
        · obtain ⟨x, hxp⟩ : ∃ x, a.L[p]? = some x := ⟨_, List.getElem?_eq_getElem hpl⟩
          obtain ⟨bd, A6, c6, A10, c10, hB0, hFb, q0, q1, q2, q3, q4, q5, q6, q7, q8, q9, q10, l6, m6, r6, l10, m10, r10⟩ := at_Message r2 hxp
          have HB0 := Lib.hid hB0
          rw [hB0] at k2
          clear hB0
          obtain ⟨hx6, hx10, hxr⟩ := hL2 x (List.mem_of_getElem? hxp)
          have Hxp := Lib.hid hxp
          clear hxp
          go_wp2_with fail
          refine (Big19_any x A6 c6 A10 c10 _ _ ⟨l6, m6, r6, l10, m10, r10⟩ hx6 hx10 hxr).mono ?_
          rintro e w2 ⟨r, rfl, hr, hb⟩
          have hC2 : Below w.heap.size w w2 := hC.trans (hb.mono hC.size)
          have Hr := Lib.hid hr
          clear hr
          cases r
          · by_cases h10 : 10 < p
            · go_wp2
              go_ret
              exact ⟨rfl, hC2⟩
            · go_wp2
              go_roundw
              case rel =>
                refine ⟨p + 1, by go_num, by omega, by omega, fun j y hj hy => ?_, hC2⟩
                by_cases hjk : j = p
                · subst hjk
                  rw [Hxp.out] at hy
                  injection hy with hy
                  subst hy
                  exact by simpa using Hr.out
                · exact hQ.out j y (by omega) hy
              case measure => simp [intOf]; omega
          · go_wp2
            go_ret
            exact ⟨rfl, hC2⟩
        · obtain rfl : p = a.L.length := by omega
          go_wp2
          go_roundw
          case rel =>
            refine ⟨k + 1, by go_num, by omega, fun j y hj hy => ?_, hC⟩
            by_cases hjk : j = k
            · subst hjk
              rw [Hak.out] at hy
              injection hy with hy
              subst hy
              refine ⟨by omega, fun x hx => ?_⟩
              obtain ⟨j, hj, rfl⟩ := List.getElem_of_mem hx
              exact hQ.out j _ hj (List.getElem?_eq_getElem hj)
            · exact hE.out j y (by omega) hy
          case measure => simp [intOf]; omega
    · obtain rfl : k = ts.length := by omega
      have HF : Hid (∀ (j : Nat) (a : NAct), ts[j]? = some a → a.L.length ≤ 11 ∧ ∀ m ∈ a.L, m.Fits) := fun j a hj => hE.out j a (List.getElem?_eq_some_iff.1 hj).1 hj
      clear hE
      go_wp2_with fail
      have hB1 : Below w.heap.size w ((wr.alloc (.cells #[.slice none 0 0] 50)).alloc (.cells #[.slice none 0 0] 50)) := (hB.alloc hB.size _).alloc (by have := hB.size; simp; omega) _
      have hT : Three w (((wr.alloc (.cells #[.slice none 0 0] 50)).alloc (.cells #[.slice none 0 0] 50)).alloc (.cells #[.slice none 0 0] 71)) (fun k => k = wr.heap.size) (fun k => k = wr.heap.size + 1) (fun k => k = wr.heap.size + 2) wr.heap.size (wr.heap.size + 1) (wr.heap.size + 2) [] [] [] := by
        have hs := hB.size
        refine ⟨?_, ?_, ?_, ?_, ?_, ?_, ?_, ?_, ?_, ?_, ?_, ?_, ?_⟩
        · exact ((NetAt.new wr).below ((Below.refl _ _).alloc (Nat.le_refl _) _)).below ((Below.refl _ _).alloc (Nat.le_refl _) _)
        · have := NetAt.new (wr.alloc (.cells #[.slice none 0 0] 50))
          simp only [World.size_alloc] at this
          exact this.below ((Below.refl _ _).alloc (Nat.le_refl _) _)
        · have := RefAt.new ((wr.alloc (.cells #[.slice none 0 0] 50)).alloc (.cells #[.slice none 0 0] 50))
          simp only [World.size_alloc] at this
          exact this
        · intro k h1 h2; omega
        · intro k h1 h2; omega
        · intro k h1 h2; omega
        · intro k h1; simp; omega
        · intro k h1; simp; omega
        · intro k h1; simp; omega
        · intro k h1; omega
        · intro k h1; omega
        · intro k h1; omega
        · exact hB1.alloc hB1.size _
      generalize ((wr.alloc (.cells #[.slice none 0 0] 50)).alloc (.cells #[.slice none 0 0] 50)).alloc (.cells #[.slice none 0 0] 71) = w2 at hT ⊢
      clear hB1
      generalize wr.heap.size = g at hT ⊢
      go_loopw [10] (fun q wq => ∃ (i : Nat) (l lo : List Message) (F1 F2 F3 : Foot), q = .int .i64 i ∧ i ≤ ts.length ∧ Three w wq F1 F2 F3 g (g + 1) (g + 2) l lo l ∧ l.length ≤ 10000 ∧ lo.length ≤ 10000 ∧ Hid (∀ m ∈ l, m.Fits)) (fun q _ => ts.length - (intOf q).toNat)
      case atStart => exact ⟨0, [], [], _, _, _, rfl, Nat.zero_le _, hT, by simp, by simp, fun m hm => by simp at hm⟩
      case round =>
        obtain ⟨i, l, lo, F1, F2, F3, rfl, hi, hT0, hl0, hlo, hf0⟩ := hrel
        by_cases hlt2 : i < ts.length
        · obtain ⟨a, ha⟩ : ∃ a, ts[i]? = some a := ⟨_, List.getElem?_eq_getElem hlt2⟩
          obtain ⟨haL, haf⟩ := HF.out i a ha
          have Haf : Hid (∀ m ∈ a.L, m.Fits) := haf
          have Ha := Lib.hid ha
          clear ha haf
          go_wp2_with fail
          have hr3 := lit_msg wr 2 0 0 0
          have hT3 := hT0.then (((Below.refl wr.heap.size wr).alloc (Nat.le_refl _) (.cells #[.int .i64 2, .int .i64 0, .int .i64 0, .int .i64 0, .int .i64 0, .int .i64 0, .slice none 0 0, .int .i64 0, .bool false, .int .i64 0, .slice none 0 0] 54)))
          have hs3 : (wr.alloc (.cells #[.int .i64 2, .int .i64 0, .int .i64 0, .int .i64 0, .int .i64 0, .int .i64 0, .slice none 0 0, .int .i64 0, .bool false, .int .i64 0, .slice none 0 0] 54)).heap.size = wr.heap.size + 1 := by simp
          generalize wr.alloc (.cells #[.int .i64 2, .int .i64 0, .int .i64 0, .int .i64 0, .int .i64 0, .int .i64 0, .slice none 0 0, .int .i64 0, .bool false, .int .i64 0, .slice none 0 0] 54) = w3 at hr3 hT3 hs3 ⊢
          refine (Add_any_ (g + 1) F2 _ lo _ _ [msgL 2 0 0 0] w3 hT3.n2 hlo hr3 (by simp) (fun x hx => by simp at hx; subst hx; exact msgL_fits _ _ _ _) (.inl (by simp)) (fun j hj => by omega)).mono ?_
          rintro e w4 ⟨rfl, hN4, hK4⟩
          have hT4 := hT3.step2 hN4 hK4
          obtain ⟨lo', hlo'⟩ : ∃ lo', Hid (netAdd lo [msgL 2 0 0 0] = lo') := ⟨_, rfl⟩
          have hlo2 := netAdd_len [msgL 2 0 0 0] lo hlo
          rw [hlo'.out] at hT4 hlo2
          clear hN4 hK4 hT3 hr3 hs3 hT0 hlo'
          generalize hF2' : Grow F2 w3 w4 = F2' at hT4
          clear hF2'
          have hlo' := hlo2
          clear hlo2
          obtain ⟨ad, A2, c2, hA0, hFa, k0, k1, k2, l2, m2, r2⟩ := at_NAct (h.bound.below hT4.below) Ha.out
          subst hA0
          have hW : Hid (a.Way = 0 ∨ a.Way = 1 ∨ a.Way = 2 ∨ a.Way = 3 ∨ (a.Way ≠ 0 ∧ a.Way ≠ 1 ∧ a.Way ≠ 2 ∧ a.Way ≠ 3)) := by
            show a.Way = 0 ∨ a.Way = 1 ∨ a.Way = 2 ∨ a.Way = 3 ∨ (a.Way ≠ 0 ∧ a.Way ≠ 1 ∧ a.Way ≠ 2 ∧ a.Way ≠ 3)
            omega
          have hT5 := hT4.then ((Below.refl _ _).alloc (Nat.le_refl _) (.cells #[.int .i64 a.Way, .int .i64 a.N, .slice A2 a.L.length c2] 67))
          have hbx : (w4.alloc (.cells #[.int .i64 a.Way, .int .i64 a.N, .slice A2 a.L.length c2] 67)).heap[w4.heap.size]? = some (.cells #[.int .i64 a.Way, .int .i64 a.N, .slice A2 a.L.length c2] 67 (0, 0)) := heap_alloc_new w4 _
          have hs5 : (w4.alloc (.cells #[.int .i64 a.Way, .int .i64 a.N, .slice A2 a.L.length c2] 67)).heap.size = w4.heap.size + 1 := by simp
          have hbF1 : ¬ F1 w4.heap.size := fun hk => by have := hT4.i1 _ hk; omega
          have hbF3 : ¬ F3 w4.heap.size := fun hk => by have := hT4.i3 _ hk; omega
          have hrL : RS kMessage (w4.alloc (.cells #[.int .i64 a.Way, .int .i64 a.N, .slice A2 a.L.length c2] 67)) (fun j => F j ∧ j < w.heap.size) A2 a.L.length a.L := r2.below ((Below.refl _ _).alloc (Nat.le_refl _) _)
          have hH := Lib.hid (And.intro hbx (And.intro hs5 (And.intro hT5 hrL)))
          clear hbx hs5 hT5 hrL r2
          rcases hW.out with h0 | h0 | h0 | h0 | ⟨h0, h1, h2, h3⟩
          · have e0 : (a.Way == 0) = true := by rw [beq_iff_eq]; exact h0
            clear h0 hW
            go_wp2_with fail
            obtain ⟨hbx, hs5, hT5, hrL⟩ := hH.out
            clear hH
            generalize w4.alloc (.cells #[.int .i64 a.Way, .int .i64 a.N, .slice A2 a.L.length c2] 67) = w5 at hbx hs5 hT5 hrL ⊢
            refine (Add_any_ g F1 (fun j => F j ∧ j < w.heap.size) l A2 c2 a.L w5 hT5.n1 hl0 hrL (by omega) Haf.out (.inr (fun j hj hk => by have := hT5.o1 j hk; have := hj.2; omega)) (fun j hj => by have := hj.2; have := hT5.below.size; omega)).mono ?_
            rintro e w6 ⟨rfl, hN6, hK6⟩
            have hT6 := hT5.step1 hN6 hK6
            have hrL6 := hrL.keeps hK6 (fun j hj hk => by have := hT5.o1 j hk; have := hj.2; omega)
            obtain ⟨q0, q1, q2⟩ := box_NAct ((hK6.block _ (by omega) hbF1).trans hbx)
            have hH := Lib.hid (And.intro hbx (And.intro hs5 hT5))
            clear hbx hs5 hT5 hrL hN6 hK6
            go_wp2_with fail
            refine (RefAdd_any (g + 2) F3 (fun j => F j ∧ j < w.heap.size) l A2 c2 a.L w6 hT6.n3 hl0 hrL6 (by omega) Haf.out (.inr (fun j hj hk => by have := hT6.o3 j hk; have := hj.2; omega)) (fun h0 ad hA hk => by
              obtain ⟨ad', hA', hFd, _⟩ := hrL6.lt h0
              rw [hA] at hA'; injection hA' with hA'; subst hA'
              have := hT6.o3 _ hk; have := hFd.2; omega) (fun j hj => by have := hj.2; have := hT6.below.size; omega)).mono ?_
            rintro e wt ⟨rfl, hN7, hK7⟩
            have hT' := hT6.step3 hN7 hK7
            have hl' := netAdd_len a.L l hl0
            have hf' : Hid (∀ m ∈ netAdd l a.L, m.Fits) := netAdd_fits a.L l hf0.out Haf.out
            clear hN7 hK7 hT6 hrL6 q0 q1 q2 hH hT4
            generalize netAdd l a.L = l' at hT' hl' hf'
            generalize Grow F1 w5 w6 = F1' at hT'
            generalize Grow F3 w6 wt = F3' at hT'
            clear k0 k1 k2
            go_wp2
            obtain ⟨A1, c1, hg0, hg1, hgf, hF3, hglt, ho, hc1, hc2, hr⟩ := hT'.n3.cells
            clear hg0 ho hgf
            have hNF : ¬ NoF (g + 2) := id
            have hlb : ((l'.length : Int) != (l'.length : Int)) = false := by rw [bne_eq_false_iff_eq]
            refine wp_region_plan2 [1, 0, 0, 0, 0, 0, 3, 3, 5, 3, 3, 3, 3, 5, 6, 6] (fun w' => ∃ D : Same NoF wt, w' = D.world) (by kernel_rfl) (by kernel_rfl) InSame.start ?_
            simp only [sel, selE, Nat.reduceEqDiff, reduceIte]
            repeat (go_big_quiet_step (fail))
            refine wpQuiet_nil ?_
            refine wpE_cons (fun N hN => ?_)
            go_wp2_with fail
            refine (Len_any g _ l' _ hT'.n1.drew (by omega)).mono ?_
            rintro e w8 ⟨rfl, rfl⟩
            go_wp2
            refine hN _ _ InSame.start ?_
            clear hN N
            repeat (refine wpE_take (fun N hN => ?_); go_big_quiet_step (fail); refine wpQuiet_nil ?_; refine hN _ ?_; clear hN N)
            refine wpE_nil ?_
            refine wpE_cons (fun N hN => ?_)
            go_wp2_with fail
            refine (All_any g _ l' _ hT'.n1.drew hl' hf'.out).mono ?_
            rintro e w8 ⟨v, rfl, hM⟩
            obtain ⟨A8, c8, rfl, _, _, hr8⟩ := hM.own.reads
            have hb8 : Below wt.heap.size wt w8 := below_undrew hM.below
            go_wp2
            refine hN _ _ (InSame.of_below hb8) ?_
            clear hN N
            refine wpE_cons (fun N hN => ?_)
            go_wp2_with fail
            refine (SameMessages_eq _ _ _ _ _ l' _ _ w8 hr8 (hr.below hb8) (by omega) hf'.out).mono ?_
            rintro e w9 ⟨rfl, hb9⟩
            have hb89 : Below wt.heap.size wt w9 := hb8.trans (hb9.mono hb8.size)
            go_wp2
            refine hN _ _ (InSame.of_below hb89) ?_
            clear hN N
            repeat (refine wpE_take (fun N hN => ?_); go_big_quiet_step (fail); refine wpQuiet_nil ?_; refine hN _ ?_; clear hN N)
            refine wpE_nil ?_
            go_wp2
            go_roundw
            case rel => exact ⟨i + 1, l', lo', F1', F2', F3', by go_num, by omega, hT'.then hb89, hl', hlo', hf'⟩
            case measure => simp [intOf]; omega
          · have e0 : (a.Way == 0) = false := by rw [beq_eq_false_iff_ne]; omega
            have e1 : (a.Way == 1) = true := by rw [beq_iff_eq]; exact h0
            clear h0 hW
            obtain ⟨m, b, l', ht⟩ : ∃ (m : Message) (b : Bool) (l' : List Message), Hid (netTake l a.N = (m, b, l')) := ⟨_, _, _, rfl⟩
            have hl' : l'.length ≤ 10000 := by have := netTake_len ht.out; omega
            have hf' : Hid (∀ m ∈ l', m.Fits) := (netTake_fits ht.out hf0.out).2
            have hmf := (netTake_fits ht.out hf0.out).1
            go_wp2_with fail
            obtain ⟨hbx, hs5, hT5, hrL⟩ := hH.out
            clear hH hrL hT4 k0 k1 k2
            generalize w4.alloc (.cells #[.int .i64 a.Way, .int .i64 a.N, .slice A2 a.L.length c2] 67) = w5 at hbx hs5 hT5 ⊢
            generalize w4.heap.size = b4 at hbx hs5 hbF1 hbF3 ⊢
            refine (Take_all g F1 l w5 a.N hl0 hT5.n1 ht.out).mono ?_
            rintro e w6 ⟨A6, c6, A10, c10, rfl, hN6, hM6, hK6⟩
            have hT6 := hT5.step1 hN6 hK6
            have hbx6 := (hK6.block b4 (by omega) hbF1).trans hbx
            obtain ⟨q0, q1, q2⟩ := box_NAct hbx6
            have hlt6 : b4 < w6.heap.size := by have := hK6.size; omega
            have hH := Lib.hid (And.intro hbx6 hmf)
            clear hbx hbx6 hs5 hT5 hN6 hK6 hmf
            generalize Grow F1 w5 w6 = F1' at hT6 hM6
            go_wp2_with fail
            have hbm : (w6.alloc (.cells #[.int .i64 m.Kind, .int .i64 m.From, .int .i64 m.To, .int .i64 m.Term, .int .i64 m.Last, .int .i64 m.LastTerm, .slice A6 m.Entries.length c6, .int .i64 m.Commit, .bool m.OK, .int .i64 m.Match, .slice A10 m.Data.length c10] 54)).heap[w6.heap.size]? = some (.cells #[.int .i64 m.Kind, .int .i64 m.From, .int .i64 m.To, .int .i64 m.Term, .int .i64 m.Last, .int .i64 m.LastTerm, .slice A6 m.Entries.length c6, .int .i64 m.Commit, .bool m.OK, .int .i64 m.Match, .slice A10 m.Data.length c10] 54 (0, 0)) := heap_alloc_new w6 _
            have hM7 := hM6.below ((Below.refl w6.heap.size w6).alloc (Nat.le_refl _) (.cells #[.int .i64 m.Kind, .int .i64 m.From, .int .i64 m.To, .int .i64 m.Term, .int .i64 m.Last, .int .i64 m.LastTerm, .slice A6 m.Entries.length c6, .int .i64 m.Commit, .bool m.OK, .int .i64 m.Match, .slice A10 m.Data.length c10] 54))
            have hT7 := hT6.then ((Below.refl w6.heap.size w6).alloc (Nat.le_refl _) (.cells #[.int .i64 m.Kind, .int .i64 m.From, .int .i64 m.To, .int .i64 m.Term, .int .i64 m.Last, .int .i64 m.LastTerm, .slice A6 m.Entries.length c6, .int .i64 m.Commit, .bool m.OK, .int .i64 m.Match, .slice A10 m.Data.length c10] 54))
            have hs7 : (w6.alloc (.cells #[.int .i64 m.Kind, .int .i64 m.From, .int .i64 m.To, .int .i64 m.Term, .int .i64 m.Last, .int .i64 m.LastTerm, .slice A6 m.Entries.length c6, .int .i64 m.Commit, .bool m.OK, .int .i64 m.Match, .slice A10 m.Data.length c10] 54)).heap.size = w6.heap.size + 1 := by simp
            have hb12 : ¬ F3 w6.heap.size := fun hk => by have := hT6.i3 _ hk; omega
            clear hM6 hT6 q0 q1 q2
            generalize w6.alloc (.cells #[.int .i64 m.Kind, .int .i64 m.From, .int .i64 m.To, .int .i64 m.Term, .int .i64 m.Last, .int .i64 m.LastTerm, .slice A6 m.Entries.length c6, .int .i64 m.Commit, .bool m.OK, .int .i64 m.Match, .slice A10 m.Data.length c10] 54) = w7 at hbm hM7 hT7 hs7 ⊢
            generalize w6.heap.size = b6 at hbm hs7 hb12 hlt6 ⊢
            refine (RefTake_all (g + 2) F3 l w7 a.N hl0 hT7.n3 ht.out).mono ?_
            rintro e w8 ⟨qA6, qc6, qA10, qc10, rfl, hN8, hM8, hK8⟩
            have hT8 := hT7.step3 hN8 hK8
            have hM78 : MsgAt w8 F1' m A6 c6 A10 c10 := ⟨hM7.l6, hM7.m6, hM7.r6.keeps hK8 hT7.a13, hM7.l10, hM7.m10, hM7.r10.keeps hK8 hT7.a13⟩
            have hbm8 := (hK8.block b6 (by omega) hb12).trans hbm
            have hlt8 : b6 < w8.heap.size := by have := hK8.size; omega
            obtain ⟨k0, k1, k2, k3, k4, k5, k6, k7, k8, k9, k10⟩ := box_Message hbm8
            clear hbm hM7 hT7 hs7 hN8 hK8 hbm8 hb12 hbF1 hbF3
            generalize Grow F3 w7 w8 = F3' at hT8 hM8
            go_wp2_with fail
            have hra : RS kMessage (((w8.alloc (.cells #[.int .i64 m.Kind, .int .i64 m.From, .int .i64 m.To, .int .i64 m.Term, .int .i64 m.Last, .int .i64 m.LastTerm, .slice qA6 m.Entries.length qc6, .int .i64 m.Commit, .bool m.OK, .int .i64 m.Match, .slice qA10 m.Data.length qc10] 54)).alloc (.cells #[.int .i64 m.Kind, .int .i64 m.From, .int .i64 m.To, .int .i64 m.Term, .int .i64 m.Last, .int .i64 m.LastTerm, .slice A6 m.Entries.length c6, .int .i64 m.Commit, .bool m.OK, .int .i64 m.Match, .slice A10 m.Data.length c10] 54)).alloc (.cells #[.int .i64 m.Kind, .int .i64 m.From, .int .i64 m.To, .int .i64 m.Term, .int .i64 m.Last, .int .i64 m.LastTerm, .slice qA6 m.Entries.length qc6, .int .i64 m.Commit, .bool m.OK, .int .i64 m.Match, .slice qA10 m.Data.length qc10] 54)) (fun k => F1' k ∨ k = (w8.alloc (.cells #[.int .i64 m.Kind, .int .i64 m.From, .int .i64 m.To, .int .i64 m.Term, .int .i64 m.Last, .int .i64 m.LastTerm, .slice qA6 m.Entries.length qc6, .int .i64 m.Commit, .bool m.OK, .int .i64 m.Match, .slice qA10 m.Data.length qc10] 54)).heap.size) (some ⟨(w8.alloc (.cells #[.int .i64 m.Kind, .int .i64 m.From, .int .i64 m.To, .int .i64 m.Term, .int .i64 m.Last, .int .i64 m.LastTerm, .slice qA6 m.Entries.length qc6, .int .i64 m.Commit, .bool m.OK, .int .i64 m.Match, .slice qA10 m.Data.length qc10] 54)).heap.size, 0, none⟩) 1 [m] :=
              (RS.lit (w8.alloc (.cells #[.int .i64 m.Kind, .int .i64 m.From, .int .i64 m.To, .int .i64 m.Term, .int .i64 m.Last, .int .i64 m.LastTerm, .slice qA6 m.Entries.length qc6, .int .i64 m.Commit, .bool m.OK, .int .i64 m.Match, .slice qA10 m.Data.length qc10] 54)) (xs := [m]) (Elems.single (K := kMessage) (hM78.below ((Below.refl _ _).alloc (Nat.le_refl _) _)).rep)).below ((Below.refl _ _).alloc (Nat.le_refl _) _)
            have hrb : RS kMessage (((w8.alloc (.cells #[.int .i64 m.Kind, .int .i64 m.From, .int .i64 m.To, .int .i64 m.Term, .int .i64 m.Last, .int .i64 m.LastTerm, .slice qA6 m.Entries.length qc6, .int .i64 m.Commit, .bool m.OK, .int .i64 m.Match, .slice qA10 m.Data.length qc10] 54)).alloc (.cells #[.int .i64 m.Kind, .int .i64 m.From, .int .i64 m.To, .int .i64 m.Term, .int .i64 m.Last, .int .i64 m.LastTerm, .slice A6 m.Entries.length c6, .int .i64 m.Commit, .bool m.OK, .int .i64 m.Match, .slice A10 m.Data.length c10] 54)).alloc (.cells #[.int .i64 m.Kind, .int .i64 m.From, .int .i64 m.To, .int .i64 m.Term, .int .i64 m.Last, .int .i64 m.LastTerm, .slice qA6 m.Entries.length qc6, .int .i64 m.Commit, .bool m.OK, .int .i64 m.Match, .slice qA10 m.Data.length qc10] 54)) (fun k => F3' k ∨ k = ((w8.alloc (.cells #[.int .i64 m.Kind, .int .i64 m.From, .int .i64 m.To, .int .i64 m.Term, .int .i64 m.Last, .int .i64 m.LastTerm, .slice qA6 m.Entries.length qc6, .int .i64 m.Commit, .bool m.OK, .int .i64 m.Match, .slice qA10 m.Data.length qc10] 54)).alloc (.cells #[.int .i64 m.Kind, .int .i64 m.From, .int .i64 m.To, .int .i64 m.Term, .int .i64 m.Last, .int .i64 m.LastTerm, .slice A6 m.Entries.length c6, .int .i64 m.Commit, .bool m.OK, .int .i64 m.Match, .slice A10 m.Data.length c10] 54)).heap.size) (some ⟨((w8.alloc (.cells #[.int .i64 m.Kind, .int .i64 m.From, .int .i64 m.To, .int .i64 m.Term, .int .i64 m.Last, .int .i64 m.LastTerm, .slice qA6 m.Entries.length qc6, .int .i64 m.Commit, .bool m.OK, .int .i64 m.Match, .slice qA10 m.Data.length qc10] 54)).alloc (.cells #[.int .i64 m.Kind, .int .i64 m.From, .int .i64 m.To, .int .i64 m.Term, .int .i64 m.Last, .int .i64 m.LastTerm, .slice A6 m.Entries.length c6, .int .i64 m.Commit, .bool m.OK, .int .i64 m.Match, .slice A10 m.Data.length c10] 54)).heap.size, 0, none⟩) 1 [m] :=
              RS.lit ((w8.alloc (.cells #[.int .i64 m.Kind, .int .i64 m.From, .int .i64 m.To, .int .i64 m.Term, .int .i64 m.Last, .int .i64 m.LastTerm, .slice qA6 m.Entries.length qc6, .int .i64 m.Commit, .bool m.OK, .int .i64 m.Match, .slice qA10 m.Data.length qc10] 54)).alloc (.cells #[.int .i64 m.Kind, .int .i64 m.From, .int .i64 m.To, .int .i64 m.Term, .int .i64 m.Last, .int .i64 m.LastTerm, .slice A6 m.Entries.length c6, .int .i64 m.Commit, .bool m.OK, .int .i64 m.Match, .slice A10 m.Data.length c10] 54)) (xs := [m]) (Elems.single (K := kMessage) ((hM8.below ((Below.refl _ _).alloc (Nat.le_refl _) _)).below ((Below.refl _ _).alloc (Nat.le_refl _) _)).rep)
            have hT9 := hT8.then ((((Below.refl w8.heap.size w8).alloc (Nat.le_refl _) (.cells #[.int .i64 m.Kind, .int .i64 m.From, .int .i64 m.To, .int .i64 m.Term, .int .i64 m.Last, .int .i64 m.LastTerm, .slice qA6 m.Entries.length qc6, .int .i64 m.Commit, .bool m.OK, .int .i64 m.Match, .slice qA10 m.Data.length qc10] 54)).alloc (by simp) (.cells #[.int .i64 m.Kind, .int .i64 m.From, .int .i64 m.To, .int .i64 m.Term, .int .i64 m.Last, .int .i64 m.LastTerm, .slice A6 m.Entries.length c6, .int .i64 m.Commit, .bool m.OK, .int .i64 m.Match, .slice A10 m.Data.length c10] 54)).alloc (by simp; omega) (.cells #[.int .i64 m.Kind, .int .i64 m.From, .int .i64 m.To, .int .i64 m.Term, .int .i64 m.Last, .int .i64 m.LastTerm, .slice qA6 m.Entries.length qc6, .int .i64 m.Commit, .bool m.OK, .int .i64 m.Match, .slice qA10 m.Data.length qc10] 54))
            simp only [World.size_alloc] at hra hrb
            clear k0 k1 k2 k3 k4 k5 k6 k7 k8 k9 k10 hM8 hM78 hT8
            generalize ((w8.alloc (.cells #[.int .i64 m.Kind, .int .i64 m.From, .int .i64 m.To, .int .i64 m.Term, .int .i64 m.Last, .int .i64 m.LastTerm, .slice qA6 m.Entries.length qc6, .int .i64 m.Commit, .bool m.OK, .int .i64 m.Match, .slice qA10 m.Data.length qc10] 54)).alloc (.cells #[.int .i64 m.Kind, .int .i64 m.From, .int .i64 m.To, .int .i64 m.Term, .int .i64 m.Last, .int .i64 m.LastTerm, .slice A6 m.Entries.length c6, .int .i64 m.Commit, .bool m.OK, .int .i64 m.Match, .slice A10 m.Data.length c10] 54)).alloc (.cells #[.int .i64 m.Kind, .int .i64 m.From, .int .i64 m.To, .int .i64 m.Term, .int .i64 m.Last, .int .i64 m.LastTerm, .slice qA6 m.Entries.length qc6, .int .i64 m.Commit, .bool m.OK, .int .i64 m.Match, .slice qA10 m.Data.length qc10] 54) = w9 at hra hrb hT9 ⊢
            refine (SameMessages_eq _ _ _ _ _ [m] _ _ w9 hra hrb (by omega) (fun x hx => by rw [List.mem_singleton] at hx; subst hx; exact hH.out.2)).mono ?_
            rintro e wt ⟨rfl, hb9⟩
            have hT' := hT9.then hb9
            clear hra hrb hT9 ht
            go_wp2
            obtain ⟨A1, c1, hg0, hg1, hgf, hF3, hglt, ho, hc1, hc2, hr⟩ := hT'.n3.cells
            clear hg0 ho hgf
            have hNF : ¬ NoF (g + 2) := id
            have hlb : ((l'.length : Int) != (l'.length : Int)) = false := by rw [bne_eq_false_iff_eq]
            refine wp_region_plan2 [1, 0, 0, 0, 0, 0, 3, 3, 5, 3, 3, 3, 3, 5, 6, 6] (fun w' => ∃ D : Same NoF wt, w' = D.world) (by kernel_rfl) (by kernel_rfl) InSame.start ?_
            simp only [sel, selE, Nat.reduceEqDiff, reduceIte]
            repeat (go_big_quiet_step (fail))
            refine wpQuiet_nil ?_
            refine wpE_cons (fun N hN => ?_)
            go_wp2_with fail
            refine (Len_any g _ l' _ hT'.n1.drew (by omega)).mono ?_
            rintro e w8 ⟨rfl, rfl⟩
            go_wp2
            refine hN _ _ InSame.start ?_
            clear hN N
            repeat (refine wpE_take (fun N hN => ?_); go_big_quiet_step (fail); refine wpQuiet_nil ?_; refine hN _ ?_; clear hN N)
            refine wpE_nil ?_
            refine wpE_cons (fun N hN => ?_)
            go_wp2_with fail
            refine (All_any g _ l' _ hT'.n1.drew hl' hf'.out).mono ?_
            rintro e w8 ⟨v, rfl, hM⟩
            obtain ⟨A8, c8, rfl, _, _, hr8⟩ := hM.own.reads
            have hb8 : Below wt.heap.size wt w8 := below_undrew hM.below
            go_wp2
            refine hN _ _ (InSame.of_below hb8) ?_
            clear hN N
            refine wpE_cons (fun N hN => ?_)
            go_wp2_with fail
            refine (SameMessages_eq _ _ _ _ _ l' _ _ w8 hr8 (hr.below hb8) (by omega) hf'.out).mono ?_
            rintro e w9 ⟨rfl, hb9⟩
            have hb89 : Below wt.heap.size wt w9 := hb8.trans (hb9.mono hb8.size)
            go_wp2
            refine hN _ _ (InSame.of_below hb89) ?_
            clear hN N
            repeat (refine wpE_take (fun N hN => ?_); go_big_quiet_step (fail); refine wpQuiet_nil ?_; refine hN _ ?_; clear hN N)
            refine wpE_nil ?_
            go_wp2
            go_roundw
            case rel => exact ⟨i + 1, l', lo', F1', F2', F3', by go_num, by omega, hT'.then hb89, hl', hlo', hf'⟩
            case measure => simp [intOf]; omega
          · have e0 : (a.Way == 0) = false := by rw [beq_eq_false_iff_ne]; omega
            have e1 : (a.Way == 1) = false := by rw [beq_eq_false_iff_ne]; omega
            have e2 : (a.Way == 2) = true := by rw [beq_iff_eq]; exact h0
            clear h0 hW
            obtain ⟨m, b, l', ht⟩ : ∃ (m : Message) (b : Bool) (l' : List Message), Hid (netTake l a.N = (m, b, l')) := ⟨_, _, _, rfl⟩
            have hl' : l'.length ≤ 10000 := by have := netTake_len ht.out; omega
            have hf' : Hid (∀ m ∈ l', m.Fits) := (netTake_fits ht.out hf0.out).2
            go_wp2_with fail
            obtain ⟨hbx, hs5, hT5, hrL⟩ := hH.out
            clear hH hrL hT4 k0 k1 k2
            generalize w4.alloc (.cells #[.int .i64 a.Way, .int .i64 a.N, .slice A2 a.L.length c2] 67) = w5 at hbx hs5 hT5 ⊢
            generalize w4.heap.size = b4 at hbx hs5 hbF1 hbF3 ⊢
            obtain ⟨q0, q1, q2⟩ := box_NAct hbx
            have hlt5 : b4 < w5.heap.size := by omega
            have Hbx := Lib.hid (And.intro hbx hs5)
            clear hbx hs5
            obtain ⟨S, HS⟩ : ∃ S : Foot, Hid (∀ k, S k ↔ F1 k ∨ F3 k) := ⟨_, fun _ => Iff.rfl⟩
            have hSb : ¬ S b4 := fun hk => ((HS.out b4).1 hk).elim hbF1 hbF3
            have hT5d := hT5.then (drawn_below w5 1)
            refine wp_region_plan [0, 0, 1, 0, 0, 0, 1, 1] (fun w' => ∃ D : Same S w5, w' = D.world) (by kernel_rfl) (by kernel_rfl) InSame.start ?_
            simp only [sel, selE, Nat.reduceEqDiff, reduceIte]
            repeat (go_big_quiet_step (fail))
            refine wpQuiet_nil ?_
            refine wpE_cons (fun N hN => ?_)
            go_wp2_with fail
            refine (Drop_all g F1 l w5.drew a.N hl0 hT5d.n1 ht.out).mono ?_
            rintro e w6 ⟨rfl, hN6, hK6⟩
            have hT6 := hT5d.step1 hN6 hK6
            have hs6 := hK6.size
            rw [World.size_drew] at hs6
            have hC6 : ∀ k, k < w5.heap.size → ¬ S k → w6.heap[k]? = w5.heap[k]? := fun k hk hn => hK6.block k hk (fun h => hn ((HS.out k).2 (.inl h)))
            have HC6 := Lib.hid hC6
            clear hC6 hN6 hK6 hT5d
            generalize Grow F1 _ w6 = F1' at hT6
            go_wp2
            refine hN _ _ ⟨⟨w6, HC6.out⟩, rfl⟩ ?_
            clear hN N
            refine wpE_cons (fun N hN => ?_)
            go_wp2_with fail
            refine (RefDrop_all (g + 2) F3 l w6 a.N hl0 hT6.n3 ht.out).mono ?_
            rintro e wt ⟨rfl, hN7, hK7⟩
            have hT' := hT6.step3 hN7 hK7
            have HC7 : Hid (∀ k, k < w5.heap.size → ¬ S k → wt.heap[k]? = w5.heap[k]?) := fun k hk hn => (hK7.block k (by omega) (fun h => hn ((HS.out k).2 (.inr h)))).trans (HC6.out k hk hn)
            clear hN7 hK7 hT6
            generalize Grow F3 _ wt = F3' at hT'
            go_wp2
            refine hN _ _ ⟨⟨wt, HC7.out⟩, rfl⟩ ?_
            clear hN N
            refine wpE_cons (fun N hN => ?_)
            go_wp2
            refine hN _ _ ⟨⟨wt, HC7.out⟩, rfl⟩ ?_
            refine wpE_nil ?_
            clear hN N q0 q1 q2 HC6 HC7 Hbx
            go_wp2
            obtain ⟨A1, c1, hg0, hg1, hgf, hF3, hglt, ho, hc1, hc2, hr⟩ := hT'.n3.cells
            clear hg0 ho hgf
            have hNF : ¬ NoF (g + 2) := id
            have hlb : ((l'.length : Int) != (l'.length : Int)) = false := by rw [bne_eq_false_iff_eq]
            refine wp_region_plan2 [1, 0, 0, 0, 0, 0, 3, 3, 5, 3, 3, 3, 3, 5, 6, 6] (fun w' => ∃ D : Same NoF wt, w' = D.world) (by kernel_rfl) (by kernel_rfl) InSame.start ?_
            simp only [sel, selE, Nat.reduceEqDiff, reduceIte]
            repeat (go_big_quiet_step (fail))
            refine wpQuiet_nil ?_
            refine wpE_cons (fun N hN => ?_)
            go_wp2_with fail
            refine (Len_any g _ l' _ hT'.n1.drew (by omega)).mono ?_
            rintro e w8 ⟨rfl, rfl⟩
            go_wp2
            refine hN _ _ InSame.start ?_
            clear hN N
            repeat (refine wpE_take (fun N hN => ?_); go_big_quiet_step (fail); refine wpQuiet_nil ?_; refine hN _ ?_; clear hN N)
            refine wpE_nil ?_
            refine wpE_cons (fun N hN => ?_)
            go_wp2_with fail
            refine (All_any g _ l' _ hT'.n1.drew hl' hf'.out).mono ?_
            rintro e w8 ⟨v, rfl, hM⟩
            obtain ⟨A8, c8, rfl, _, _, hr8⟩ := hM.own.reads
            have hb8 : Below wt.heap.size wt w8 := below_undrew hM.below
            go_wp2
            refine hN _ _ (InSame.of_below hb8) ?_
            clear hN N
            refine wpE_cons (fun N hN => ?_)
            go_wp2_with fail
            refine (SameMessages_eq _ _ _ _ _ l' _ _ w8 hr8 (hr.below hb8) (by omega) hf'.out).mono ?_
            rintro e w9 ⟨rfl, hb9⟩
            have hb89 : Below wt.heap.size wt w9 := hb8.trans (hb9.mono hb8.size)
            go_wp2
            refine hN _ _ (InSame.of_below hb89) ?_
            clear hN N
            repeat (refine wpE_take (fun N hN => ?_); go_big_quiet_step (fail); refine wpQuiet_nil ?_; refine hN _ ?_; clear hN N)
            refine wpE_nil ?_
            go_wp2
            go_roundw
            case rel => exact ⟨i + 1, l', lo', F1', F2', F3', by go_num, by omega, hT'.then hb89, hl', hlo', hf'⟩
            case measure => simp [intOf]; omega
          · have e0 : (a.Way == 0) = false := by rw [beq_eq_false_iff_ne]; omega
            have e1 : (a.Way == 1) = false := by rw [beq_eq_false_iff_ne]; omega
            have e2 : (a.Way == 2) = false := by rw [beq_eq_false_iff_ne]; omega
            have e3 : (a.Way == 3) = true := by rw [beq_iff_eq]; exact h0
            clear h0 hW
            obtain ⟨b, l', ht⟩ : ∃ (b : Bool) (l' : List Message), Hid (netTwice l a.N = (b, l')) := ⟨_, _, rfl⟩
            have hl' : l'.length ≤ 10000 := (netTwice_ok ht.out hl0 hf0.out).1
            have hf' : Hid (∀ m ∈ l', m.Fits) := (netTwice_ok ht.out hl0 hf0.out).2
            go_wp2_with fail
            obtain ⟨hbx, hs5, hT5, hrL⟩ := hH.out
            clear hH hrL hT4 k0 k1 k2
            generalize w4.alloc (.cells #[.int .i64 a.Way, .int .i64 a.N, .slice A2 a.L.length c2] 67) = w5 at hbx hs5 hT5 ⊢
            generalize w4.heap.size = b4 at hbx hs5 hbF1 hbF3 ⊢
            obtain ⟨q0, q1, q2⟩ := box_NAct hbx
            have hlt5 : b4 < w5.heap.size := by omega
            have Hbx := Lib.hid (And.intro hbx hs5)
            clear hbx hs5
            obtain ⟨S, HS⟩ : ∃ S : Foot, Hid (∀ k, S k ↔ F1 k ∨ F3 k) := ⟨_, fun _ => Iff.rfl⟩
            have hSb : ¬ S b4 := fun hk => ((HS.out b4).1 hk).elim hbF1 hbF3
            have hT5d := hT5.then (drawn_below w5 1)
            refine wp_region_plan [0, 0, 1, 0, 0, 0, 1, 1] (fun w' => ∃ D : Same S w5, w' = D.world) (by kernel_rfl) (by kernel_rfl) InSame.start ?_
            simp only [sel, selE, Nat.reduceEqDiff, reduceIte]
            repeat (go_big_quiet_step (fail))
            refine wpQuiet_nil ?_
            refine wpE_cons (fun N hN => ?_)
            go_wp2_with fail
            refine (Twice_all g F1 l w5.drew a.N hl0 hT5d.n1 hf0.out ht.out).mono ?_
            rintro e w6 ⟨rfl, hN6, hK6⟩
            have hT6 := hT5d.step1 hN6 hK6
            have hs6 := hK6.size
            rw [World.size_drew] at hs6
            have hC6 : ∀ k, k < w5.heap.size → ¬ S k → w6.heap[k]? = w5.heap[k]? := fun k hk hn => hK6.block k hk (fun h => hn ((HS.out k).2 (.inl h)))
            have HC6 := Lib.hid hC6
            clear hC6 hN6 hK6 hT5d
            generalize Grow F1 _ w6 = F1' at hT6
            go_wp2
            refine hN _ _ ⟨⟨w6, HC6.out⟩, rfl⟩ ?_
            clear hN N
            refine wpE_cons (fun N hN => ?_)
            go_wp2_with fail
            refine (RefTwice_all (g + 2) F3 l w6 a.N hl0 hT6.n3 hf0.out ht.out).mono ?_
            rintro e wt ⟨rfl, hN7, hK7⟩
            have hT' := hT6.step3 hN7 hK7
            have HC7 : Hid (∀ k, k < w5.heap.size → ¬ S k → wt.heap[k]? = w5.heap[k]?) := fun k hk hn => (hK7.block k (by omega) (fun h => hn ((HS.out k).2 (.inr h)))).trans (HC6.out k hk hn)
            clear hN7 hK7 hT6
            generalize Grow F3 _ wt = F3' at hT'
            go_wp2
            refine hN _ _ ⟨⟨wt, HC7.out⟩, rfl⟩ ?_
            clear hN N
            refine wpE_cons (fun N hN => ?_)
            go_wp2
            refine hN _ _ ⟨⟨wt, HC7.out⟩, rfl⟩ ?_
            refine wpE_nil ?_
            clear hN N q0 q1 q2 HC6 HC7 Hbx
            go_wp2
            obtain ⟨A1, c1, hg0, hg1, hgf, hF3, hglt, ho, hc1, hc2, hr⟩ := hT'.n3.cells
            clear hg0 ho hgf
            have hNF : ¬ NoF (g + 2) := id
            have hlb : ((l'.length : Int) != (l'.length : Int)) = false := by rw [bne_eq_false_iff_eq]
            refine wp_region_plan2 [1, 0, 0, 0, 0, 0, 3, 3, 5, 3, 3, 3, 3, 5, 6, 6] (fun w' => ∃ D : Same NoF wt, w' = D.world) (by kernel_rfl) (by kernel_rfl) InSame.start ?_
            simp only [sel, selE, Nat.reduceEqDiff, reduceIte]
            repeat (go_big_quiet_step (fail))
            refine wpQuiet_nil ?_
            refine wpE_cons (fun N hN => ?_)
            go_wp2_with fail
            refine (Len_any g _ l' _ hT'.n1.drew (by omega)).mono ?_
            rintro e w8 ⟨rfl, rfl⟩
            go_wp2
            refine hN _ _ InSame.start ?_
            clear hN N
            repeat (refine wpE_take (fun N hN => ?_); go_big_quiet_step (fail); refine wpQuiet_nil ?_; refine hN _ ?_; clear hN N)
            refine wpE_nil ?_
            refine wpE_cons (fun N hN => ?_)
            go_wp2_with fail
            refine (All_any g _ l' _ hT'.n1.drew hl' hf'.out).mono ?_
            rintro e w8 ⟨v, rfl, hM⟩
            obtain ⟨A8, c8, rfl, _, _, hr8⟩ := hM.own.reads
            have hb8 : Below wt.heap.size wt w8 := below_undrew hM.below
            go_wp2
            refine hN _ _ (InSame.of_below hb8) ?_
            clear hN N
            refine wpE_cons (fun N hN => ?_)
            go_wp2_with fail
            refine (SameMessages_eq _ _ _ _ _ l' _ _ w8 hr8 (hr.below hb8) (by omega) hf'.out).mono ?_
            rintro e w9 ⟨rfl, hb9⟩
            have hb89 : Below wt.heap.size wt w9 := hb8.trans (hb9.mono hb8.size)
            go_wp2
            refine hN _ _ (InSame.of_below hb89) ?_
            clear hN N
            repeat (refine wpE_take (fun N hN => ?_); go_big_quiet_step (fail); refine wpQuiet_nil ?_; refine hN _ ?_; clear hN N)
            refine wpE_nil ?_
            go_wp2
            go_roundw
            case rel => exact ⟨i + 1, l', lo', F1', F2', F3', by go_num, by omega, hT'.then hb89, hl', hlo', hf'⟩
            case measure => simp [intOf]; omega
          · have e0 : (a.Way == 0) = false := by rw [beq_eq_false_iff_ne]; omega
            have e1 : (a.Way == 1) = false := by rw [beq_eq_false_iff_ne]; omega
            have e2 : (a.Way == 2) = false := by rw [beq_eq_false_iff_ne]; omega
            have e3 : (a.Way == 3) = false := by rw [beq_eq_false_iff_ne]; omega
            clear h0 h1 h2 h3 hW
            go_wp2_with fail
            obtain ⟨hbx, hs5, hT', hrL⟩ := hH.out
            clear hH hrL hT4 k0 k1 k2 hbx hs5
            generalize w4.alloc (.cells #[.int .i64 a.Way, .int .i64 a.N, .slice A2 a.L.length c2] 67) = wt at hT' ⊢
            have hl' := hl0
            have hf' := hf0
            clear hl0 hf0
            generalize l = l' at hT' hl' hf' ⊢
            generalize F1 = F1' at hT' ⊢
            generalize F3 = F3' at hT' ⊢
            obtain ⟨A1, c1, hg0, hg1, hgf, hF3, hglt, ho, hc1, hc2, hr⟩ := hT'.n3.cells
            clear hg0 ho hgf
            have hNF : ¬ NoF (g + 2) := id
            have hlb : ((l'.length : Int) != (l'.length : Int)) = false := by rw [bne_eq_false_iff_eq]
            refine wp_region_plan2 [1, 0, 0, 0, 0, 0, 3, 3, 5, 3, 3, 3, 3, 5, 6, 6] (fun w' => ∃ D : Same NoF wt, w' = D.world) (by kernel_rfl) (by kernel_rfl) InSame.start ?_
            simp only [sel, selE, Nat.reduceEqDiff, reduceIte]
            repeat (go_big_quiet_step (fail))
            refine wpQuiet_nil ?_
            refine wpE_cons (fun N hN => ?_)
            go_wp2_with fail
            refine (Len_any g _ l' _ hT'.n1.drew (by omega)).mono ?_
            rintro e w8 ⟨rfl, rfl⟩
            go_wp2
            refine hN _ _ InSame.start ?_
            clear hN N
            repeat (refine wpE_take (fun N hN => ?_); go_big_quiet_step (fail); refine wpQuiet_nil ?_; refine hN _ ?_; clear hN N)
            refine wpE_nil ?_
            refine wpE_cons (fun N hN => ?_)
            go_wp2_with fail
            refine (All_any g _ l' _ hT'.n1.drew hl' hf'.out).mono ?_
            rintro e w8 ⟨v, rfl, hM⟩
            obtain ⟨A8, c8, rfl, _, _, hr8⟩ := hM.own.reads
            have hb8 : Below wt.heap.size wt w8 := below_undrew hM.below
            go_wp2
            refine hN _ _ (InSame.of_below hb8) ?_
            clear hN N
            refine wpE_cons (fun N hN => ?_)
            go_wp2_with fail
            refine (SameMessages_eq _ _ _ _ _ l' _ _ w8 hr8 (hr.below hb8) (by omega) hf'.out).mono ?_
            rintro e w9 ⟨rfl, hb9⟩
            have hb89 : Below wt.heap.size wt w9 := hb8.trans (hb9.mono hb8.size)
            go_wp2
            refine hN _ _ (InSame.of_below hb89) ?_
            clear hN N
            repeat (refine wpE_take (fun N hN => ?_); go_big_quiet_step (fail); refine wpQuiet_nil ?_; refine hN _ ?_; clear hN N)
            refine wpE_nil ?_
            go_wp2
            go_roundw
            case rel => exact ⟨i + 1, l', lo', F1', F2', F3', by go_num, by omega, hT'.then hb89, hl', hlo', hf'⟩
            case measure => simp [intOf]; omega
        · obtain rfl : i = ts.length := by omega
          go_wp2
          go_ret
          exact ⟨rfl, hT0.below⟩
end Go.Proofs.Ytngmipppgnlkdaa
