/- raft.commit. -/
import Derived.Test.YtikpbhhnllchmaaRF5
import Derived.Test.YtikpbhhnllchmaaRSo
set_option linter.unusedVariables false
set_option linter.unusedSimpArgs false
namespace Go.Proofs.Ytikpbhhnllchmaa
open Go.RowKit
attribute [local go_sem] Same.cell Same.frozen

/-- What the nodes up to the i-th have; this one's own first. -/
def RaftS.has (s : RaftS) : Nat → List Int
  | 0 => [s.log.last]
  | i + 1 => if ((i + 1 : Nat) : Int) = s.id then s.has i else s.has i ++ [s.mat.getD (i + 1) 0]
theorem RaftS.has_length (s : RaftS) : ∀ i, (s.has i).length ≤ i + 1 ∧ 1 ≤ (s.has i).length
  | 0 => ⟨Nat.le_refl _, Nat.le_refl _⟩
  | i + 1 => by
    have := s.has_length i
    unfold RaftS.has
    split
    · omega
    · rw [List.length_append, List.length_singleton]; omega
theorem RaftS.has_full (s : RaftS) (hi : 1 ≤ s.id) : ∀ i : Nat, (s.has i).length = if s.id ≤ (i : Int) then i else i + 1
  | 0 => by rw [if_neg (by omega)]; rfl
  | i + 1 => by
    have := s.has_full hi i
    unfold RaftS.has
    split
    · rename_i h
      rw [this, if_neg (by omega), if_pos (by omega)]
    · rename_i h
      rw [List.length_append, List.length_singleton, this]
      by_cases h2 : s.id ≤ (i : Int)
      · rw [if_pos h2, if_pos (by omega)]
      · rw [if_neg h2, if_neg (by omega)]
def RaftS.commitI (s : RaftS) : Int := (sortI (s.has s.n.toNat)).getD ((s.n - 1) / 2).toNat 0
def RaftS.commitS (s : RaftS) : RaftS := if (s.log.Term s.commitI).2 = true ∧ (s.log.Term s.commitI).1 = s.term ∧ s.commit < s.commitI then { s with commit := s.commitI } else s

set_option maxHeartbeats 8000000 in
set_option maxRecDepth 100000 in
theorem commit_any (w : World) (rb : Nat) (F : Foot) (s : RaftS) (h : RaftAt w rb F s) (ok : s.Ok) (hm : (s.mat.length : Int) = s.n + 1) :
    Calls Try.prog 55 #[.pointer (some ⟨rb, 0, none⟩)] w fun e w' => e = .returned (.tuple #[]) ∧ RStep w rb F s.commitS w' := by
  obtain ⟨N, hN⟩ := Int.eq_ofNat_of_zero_le (show 0 ≤ s.n by have := ok.i1; have := ok.i2; omega)
  have hN1 : 1 ≤ N := by have := ok.i1; have := ok.i2; omega
  have hN7 : N ≤ 7 := by have := ok.n7; omega
  have hml : s.mat.length = N + 1 := by omega
  have Hok := Lib.hid ok
  have HL := Lib.hid (rlast_any w rb F s h ok.log)
  have H := Lib.hid h
  have HN := Lib.hid hN
  clear h ok hm
  go_enter Try.func55, Try.ntmps55
  go_wp2_with fail
  refine HL.out.mono ?_
  rintro e w1 ⟨rfl, k1, rfl⟩
  have hl1 : OwnS (kInt .i64) 3 ((w.drewN k1).alloc (.cells #[.int .i64 s.log.last] 3)) (fun k => k = (w.drewN k1).heap.size) (.slice (some ⟨(w.drewN k1).heap.size, 0, none⟩) 1 1) [s.log.last] :=
    (OwnS.lit (K := kInt .i64) (F := NoF) (xs := [s.log.last]) (w.drewN k1) (Elems.single (K := kInt .i64) rfl) (by simp)).mono fun k hk => hk.resolve_left (fun h => h)
  have hb1 : Below w.heap.size w ((w.drewN k1).alloc (.cells #[.int .i64 s.log.last] 3)) := (drawn_below w k1).alloc (Nat.le_refl _) _
  have hlw : OwnS (kInt .i64) 3 ((w.drewN k1).alloc (.cells #[.int .i64 s.log.last] 3)) (New w ((w.drewN k1).alloc (.cells #[.int .i64 s.log.last] 3))) (.slice (some ⟨w.heap.size, 0, none⟩) 1 1) (s.has 0) := hl1.mono fun k hk => ⟨by have : k = w.heap.size := hk; omega, by have : k = w.heap.size := hk; simp; omega⟩
  have HS := Lib.hid (And.intro hlw hb1)
  clear hl1 hb1 hlw HL
  go_wp2_with fail
  go_loopw [2, 3] (fun v q wr => ∃ i : Nat, q = .int .i64 i ∧ 1 ≤ i ∧ i ≤ N + 1 ∧ Hid (OwnS (kInt .i64) 3 wr (New w wr) v (s.has (i - 1)) ∧ Below w.heap.size w wr)) (fun _ q _ => 20 - (intOf q).toNat)
  case atStart => exact ⟨1, rfl, by omega, by omega, HS.out⟩
  case round =>
    obtain ⟨i, rfl, hi1, hi2, hO⟩ := hrel
    obtain ⟨lb, p, As, cs, vy, vn, vm, h, hF⟩ := H.out.below hO.out.2
    obtain ⟨c0, c1, c2, c3, c4, c5, c6, c7, c8, c9, c10, c11, c12, c13, hfz, hlt⟩ := h.facts
    rw [HN.out] at c1
    by_cases hin : i ≤ N
    · by_cases hid : (i : Int) = s.id
      · have e1 : ((i : Int) == s.id) = true := by rw [beq_iff_eq]; exact hid
        have e2 : ((i : Int) != s.id) = false := by rw [bne_eq_false_iff_eq]; exact hid
        have hst : Hid (s.has (i + 1 - 1) = s.has (i - 1)) := by
          show s.has (i + 1 - 1) = s.has (i - 1)
          obtain ⟨j, rfl⟩ : ∃ j, i = j + 1 := ⟨i - 1, by omega⟩
          show s.has (j + 1) = s.has j
          rw [RaftS.has, if_pos hid]
        clear hid h hF hfz
        go_wp2_with fail
        go_roundw
        case rel => exact ⟨i + 1, by go_num, by omega, by omega, by rw [hst.out]; exact hO.out.1, hO.out.2⟩
        case measure => simp [intOf]; omega
      · have e1 : ((i : Int) == s.id) = false := by rw [beq_eq_false_iff_ne]; exact hid
        have e2 : ((i : Int) != s.id) = true := by rw [bne_iff_ne]; exact hid
        obtain ⟨mx, hmx⟩ : ∃ mx, s.mat[i]? = some mx := ⟨_, List.getElem?_eq_getElem (by omega)⟩
        have hst : Hid (s.has (i + 1 - 1) = s.has (i - 1) ++ [mx]) := by
          show s.has (i + 1 - 1) = s.has (i - 1) ++ [mx]
          obtain ⟨j, rfl⟩ : ∃ j, i = j + 1 := ⟨i - 1, by omega⟩
          show s.has (j + 1) = s.has j ++ [mx]
          rw [RaftS.has, if_neg hid, List.getD_eq_getElem?_getD, hmx]
          rfl
        obtain ⟨g, cn, rfl, hg1, hg2, hcn1, hcn2⟩ := h.mat.row1 rfl (by omega)
        obtain ⟨y1, -⟩ := h.mat.cell1 rfl (i := i) (x := mx) (u := .int .i64 mx) hmx (fun _ _ _ h => h)
        rw [hml] at c13 hcn1
        have hr2 : RS (kInt .i64) (wr.alloc (.cells #[.int .i64 mx] 3)) (fun k => k = wr.heap.size) (some ⟨wr.heap.size, 0, none⟩) 1 [mx] :=
          (RS.lit wr (F := NoF) (xs := [mx]) (Elems.single (K := kInt .i64) rfl)).mono fun j hj => hj.resolve_left (fun h => h)
        have hbl : Below wr.heap.size wr (wr.alloc (.cells #[.int .i64 mx] 3)) := (Below.refl _ _).alloc (Nat.le_refl _) _
        have hO3 := hO.out.1.below hbl
        have hlen := s.has_length (i - 1)
        clear hid h hF hfz hmx
        go_wp2_with (first
          | (at_builtin
             refine wpList_append_S rfl tInts (.tmp 24) (.tmp 32) rfl (K := kInt .i64) rfl rfl hO3 hr2 ?_ ?_ ?_ ?_))
        · intro k hk hk2
          have h1 := (hO.out.1.lt k hk).1.2
          have h2 : k = wr.heap.size := hk2
          omega
        · omega
        · omega
        intro v4 w4 hA
        have hs4 := hA.grown.size
        rw [World.size_alloc] at hs4
        have hsw := hO.out.2.size
        have hB4 : Below w.heap.size w w4 := (hO.out.2.trans (hbl.mono hsw)).grown hA.grown (by rw [World.size_alloc]; omega) (fun j hj => (hO.out.1.lt j hj).1.1)
        have hO4 : OwnS (kInt .i64) 3 w4 (New w w4) v4 (s.has (i - 1) ++ [mx]) := hA.own.mono fun k hk => by
          rcases hk with hk | hk | hk
          · exact ⟨hk.1, by have := hk.2; omega⟩
          · have : k = wr.heap.size := hk
            exact ⟨by omega, by omega⟩
          · have h1 := hk.1
            rw [World.size_alloc] at h1
            exact ⟨by omega, hk.2⟩
        have HH := Lib.hid (And.intro hO4 hB4)
        clear hA hO3 hr2 hbl hO4 hB4
        go_wp2
        go_roundw
        case rel => exact ⟨i + 1, by go_num, by omega, by omega, by rw [hst.out]; exact HH.out.1, HH.out.2⟩
        case measure => simp [intOf]; omega
    · obtain rfl : i = N + 1 := by omega
      clear h hF hfz c0 c2 c3 c4 c5 c6 c7 c8 c9 c10 c11 c12 c13
      have hi1' := Hok.out.i1
      have hin' : s.id ≤ (N : Int) := by have := Hok.out.i2; have := HN.out; omega
      have hlen : (s.has N).length = N := by rw [s.has_full hi1' N, if_pos hin']
      have hO1 : OwnS (kInt .i64) 3 wr (New w wr) u2 (s.has N) := hO.out.1
      obtain ⟨m, hm⟩ : ∃ m : Nat, (N - 1) / 2 = m := ⟨_, rfl⟩
      have hmN : m < N := by omega
      have hq : ((N : Int) - 1) / 2 = (m : Int) := by omega
      obtain ⟨x, hx⟩ : ∃ x, (sortI (s.has N))[m]? = some x := ⟨_, List.getElem?_eq_getElem (by rw [sortI_length, hlen]; exact hmN)⟩
      have hcI : Hid (s.commitI = x) := by
        show s.commitI = x
        unfold RaftS.commitI
        rw [HN.out, show ((N : Nat) : Int).toNat = N from Int.toNat_natCast N, hq, Int.toNat_natCast, List.getD_eq_getElem?_getD, hx]
        rfl
      obtain ⟨g, cc, rfl, hg1, hg2, hc1, hc2⟩ := hO1.row1 rfl (by omega)
      rw [hlen] at hO1 hc1 ⊢
      have HSo := Lib.hid (sortI_own _ (s.has N) wr _ hO1 (by omega) (by omega))
      have HO1 := Lib.hid hO1
      clear hO1 hlen hm
      go_wp2_with fail
      refine HSo.out.mono ?_
      rintro e w2 ⟨rfl, hO2, hk2⟩
      have hb2 : Below w.heap.size w w2 := hO.out.2.trans (hk2.below_of hO.out.2.size fun k hk => (HO1.out.lt k hk).1.1)
      obtain ⟨y1, -⟩ := hO2.cell1 rfl (i := m) (x := x) (u := .int .i64 x) hx (fun _ _ _ h => h)
      clear c1
      obtain ⟨lb2, p2, As2, cs2, vy2, vn2, vm2, hR2, hF2⟩ := H.out.below hb2
      obtain ⟨c0, c1, c2, c3, c4, c5, c6, c7, c8, c9, c10, c11, c12, c13, hfz, hlt2⟩ := hR2.facts
      rw [HN.out] at c1
      have hgl2 : g < w2.heap.size := by have := hk2.size; omega
      have HT := Lib.hid (Term_any lb2 _ s.log w2 x hR2.log Hok.out.log)
      have f6 := hfz 6
      have HR2 := Lib.hid (And.intro hR2 (And.intro hF2 hb2))
      obtain ⟨t, ht⟩ : ∃ t, Hid ((s.log.Term x).1 = t) := ⟨_, rfl⟩
      obtain ⟨b, hb⟩ : ∃ b, Hid ((s.log.Term x).2 = b) := ⟨_, rfl⟩
      rw [ht.out, hb.out] at HT
      have fin0 : ∀ k, ¬ (b = true ∧ t = s.term ∧ s.commit < x) → RStep w rb F s.commitS (w2.drewN k) := fun k hn => by
        have e : s.commitS = s := by
          unfold RaftS.commitS
          rw [hcI.out, ht.out, hb.out, if_neg hn]
        rw [e]
        exact RStep.ofBelow H.out (hb2.trans ((drawn_below w2 k).mono hb2.size))
      have Fin0 := Lib.hid fin0
      clear hO2 hk2 hR2 hF2 hb2 hfz fin0 HSo hx
      by_cases hcond : b = true ∧ t = s.term ∧ s.commit < x
      · obtain ⟨rfl, h2, h3⟩ := hcond
        have e1 : (t == s.term) = true := by rw [beq_iff_eq]; exact h2
        have e : Hid (s.commitS = { s with commit := x }) := by
          show _ = _
          unfold RaftS.commitS
          rw [hcI.out, ht.out, hb.out, if_pos ⟨rfl, h2, h3⟩]
        clear h2
        go_wp2_with fail
        refine HT.out.mono ?_
        rintro e w3 ⟨rfl, k3, rfl⟩
        go_wp2
        go_end0
        obtain ⟨hR2, hF2, hb2⟩ := HR2.out
        rw [e.out]
        have hR3 : RaftIn (w2.drewN k3) _ _ _ _ _ _ _ _ _ := hR2.keep (Nat.le_refl _) fun _ _ _ => rfl
        refine ⟨rfl, ⟨lb2, p2, As2, cs2, vy2, vn2, vm2, hR3.set_commit x, fun i k hk => .inl (hF2 i k hk)⟩, ?_⟩
        exact ((Keeps.of_below hb2 F).drewN k3).setCell (p := ⟨rb, 6, none⟩) (fun _ => hF2 0 rb hR2.p0) _
      · have F0 := Lib.hid (fun k => Fin0.out k hcond)
        cases b with
        | false =>
          go_wp2_with fail
          refine HT.out.mono ?_
          rintro e w3 ⟨rfl, k3, rfl⟩
          go_wp2
          go_end0
          exact ⟨rfl, F0.out _⟩
        | true =>
          by_cases h2 : t = s.term
          · have e1 : (t == s.term) = true := by rw [beq_iff_eq]; exact h2
            have h3 : ¬ s.commit < x := fun h3 => hcond ⟨rfl, h2, h3⟩
            clear hcond h2
            go_wp2_with fail
            refine HT.out.mono ?_
            rintro e w3 ⟨rfl, k3, rfl⟩
            go_wp2
            go_end0
            exact ⟨rfl, F0.out _⟩
          · have e1 : (t == s.term) = false := by rw [beq_eq_false_iff_ne]; exact h2
            clear hcond h2
            go_wp2_with fail
            refine HT.out.mono ?_
            rintro e w3 ⟨rfl, k3, rfl⟩
            go_wp2
            go_end0
            exact ⟨rfl, F0.out _⟩
end Go.Proofs.Ytikpbhhnllchmaa
