/- The law GenLots, walked. -/
import Derived.Test.YtngmipppgnlkdaaDoorDG5
set_option linter.unusedVariables false
set_option linter.unusedSimpArgs false
namespace Go.Proofs.YtngmipppgnlkdaaDoor
open Go.RowKit
attribute [local go_sem] Same.cell

def LawPost (w : World) (e : Ending) (w' : World) : Prop := e = .returned (.bool true) ∧ Below w.heap.size w w'

set_option maxRecDepth 100000 in
set_option maxHeartbeats 4000000 in
theorem Lots_law (seed : Int) (A : Option Addr) (c : Nat) (ns : List Int) (w : World) (F : Foot) (h : RS (kInt .i64) w F A ns.length ns) (hc : ns.length ≤ c) (hl : ns.length ≤ 140737488355328) :
    Calls Tryd.prog 5 #[.int .i64 seed, .slice A ns.length c] w (LawPost w) := by
  go_enter Tryd.func5, Tryd.ntmps5
  go_wp2_with fail
  refine (galive_any _).mono ?_
  rintro e w1 ⟨rfl, hb1⟩
  by_cases h200 : 200 < ns.length
  · go_wp2
    go_ret
    exact ⟨rfl, hb1⟩
  go_wp2_with fail
  refine (New_any _ w1).mono ?_
  rintro e w2 ⟨rfl, hL2, hb2, hs2⟩
  have hok := lot0_ok seed
  obtain ⟨s0, hs0⟩ : ∃ s, Hid (seed % 4294967296 = s) := ⟨_, rfl⟩
  rw [hs0.out] at hL2 hok
  have Hs2 := Lib.hid hs2
  clear hs2
  go_wp2_with fail
  refine (New_any _ w2).mono ?_
  rintro e w3 ⟨rfl, hL3, hb3, hs3⟩
  have Hs3 := Lib.hid hs3
  clear hs3
  have hok3 := lot0_ok (IntKind.i64.wrap (seed + 1))
  obtain ⟨sb0, hsb⟩ : ∃ s, LotAt 77 w3 w2.heap.size s ∧ LotOk s := ⟨_, hL3, lot0_ok _⟩
  clear hL3 hok3
  go_wp2_with fail
  refine (RNew_any seed w3).mono ?_
  rintro e w4 ⟨rfl, hL4, hb4, hs4⟩
  have Hs4 := Lib.hid hs4
  clear hs4
  rw [hs0.out] at hL4
  obtain ⟨hL3, hok3⟩ := hsb
  have hL24 := (hL2.below hb3).below hb4
  have hL34 := hL3.below hb4
  have hlt2 := hL2.lt
  have hlt3 := hL3.lt
  have hlt4 := hL4.lt
  have hB4 : Below w.heap.size w w4 := ((hb1.trans (hb2.mono hb1.size)).trans (hb3.mono (by have := hb1.size; have := hb2.size; omega))).trans (hb4.mono (by have := hb1.size; have := hb2.size; have := hb3.size; omega))
  have hs1 := hb1.size
  have hs2 := hb2.size
  have hs3 := hb3.size
  have hne : w1.heap.size ≠ w2.heap.size ∧ w1.heap.size ≠ w3.heap.size ∧ w2.heap.size ≠ w3.heap.size := by omega
  have hwa : w.heap.size ≤ w1.heap.size ∧ w.heap.size ≤ w2.heap.size ∧ w.heap.size ≤ w3.heap.size := by omega
  clear Hs2 Hs3 Hs4 hL2 hL3 hb1 hb2 hb3 hb4 hs1 hs2 hs3
  generalize w1.heap.size = g at *
  generalize w2.heap.size = gb at *
  generalize w3.heap.size = gr at *
  obtain ⟨hn1, hn2, hn3⟩ := hne
  obtain ⟨ha1, ha2, ha3⟩ := hwa
  go_wp2_with fail
  go_loopw [9] (fun q wr => ∃ (k : Nat) (st sb : Int), q = .int .i64 k ∧ k ≤ ns.length ∧ LotAt 77 wr g st ∧ LotAt 77 wr gb sb ∧ LotAt 79 wr gr st ∧ LotOk st ∧ LotOk sb ∧ Below w.heap.size w wr) (fun q _ => ns.length - (intOf q).toNat)
  case atStart => exact ⟨0, s0, sb0, rfl, Nat.zero_le _, hL24, hL34, hL4, hok, hok3, hB4⟩
  case round =>
    obtain ⟨k, st, sb, rfl, hk, hL, hLb, hLr, hst, hsb, hB⟩ := hrel
    by_cases hlt : k < ns.length
    · obtain ⟨x, hx⟩ : ∃ x, ns[k]? = some x := ⟨_, List.getElem?_eq_getElem hlt⟩
      go_wp2_with fail
      refine (Next_any gb sb k wr hLb hsb).mono ?_
      rintro e w5 ⟨rfl, hLb5, hK5, -⟩
      have hL5 := hL.keeps hK5 hn1
      have hLr5 := hLr.keeps hK5 (Ne.symm hn3)
      have hB5 : Below w.heap.size w w5 := hB.trans (hK5.below_of hB.size (fun j hj => by have : j = gb := hj; omega))
      have hsb5 := lotStep_ok sb
      generalize lotStep sb = sb' at hLb5 hsb5
      clear hL hLr hLb hB hK5 hsb
      obtain ⟨ad, hA0, hFa, k0⟩ := at_int (h.bound.below hB5) hx
      subst hA0
      have Hx := Lib.hid hx
      clear hx
      have had : ad.block < w.heap.size := hFa.2
      have hlt5 : (ad.add k).block < w5.heap.size := by rw [block_add]; have := hB5.size; omega
      obtain ⟨S, HS⟩ : ∃ S : Foot, Hid (∀ j, S j ↔ j = g ∨ j = gr) := ⟨_, fun _ => Iff.rfl⟩
      have hSa : ¬ S (ad.add k).block := fun hk => by
        rw [block_add] at hk
        rcases (HS.out _).1 hk with h | h <;> omega
      obtain ⟨v, hv⟩ : ∃ v, Hid (lotVal (lotStep st) x = v) := ⟨_, rfl⟩
      obtain ⟨st', hst'⟩ : ∃ s, Hid (lotStep st = s) := ⟨_, rfl⟩
      have evv : (v != v) = false := by rw [bne_eq_false_iff_eq]
      have hL5d : LotAt 77 w5.drew g st := hL5
      go_wp2_with fail
      refine wp_region_plan [0, 0, 0, 0, 0, 1, 0, 0, 0, 0, 0, 1, 1] (fun w' => ∃ D : Same S w5, w' = D.world) (by kernel_rfl) (by kernel_rfl) InSame.start ?_
      simp only [sel, selE, Nat.reduceEqDiff, reduceIte]
      repeat (go_big_quiet_step (fail))
      refine wpQuiet_nil ?_
      refine wpE_cons (fun N hN => ?_)
      go_wp2_with fail
      refine (Next_any g st x w5.drew hL5d hst).mono ?_
      rintro e w6 ⟨rfl, hL6, hK6, -⟩
      rw [hv.out]
      rw [hst'.out] at hL6
      have hs6 := hK6.size
      rw [World.size_drew] at hs6
      have HC6 : Hid (∀ k, k < w5.heap.size → ¬ S k → w6.heap[k]? = w5.heap[k]?) := fun k hk hn => hK6.block k hk (fun h => hn ((HS.out k).2 (.inl h)))
      have hLr6 : LotAt 79 w6 gr st := (show LotAt 79 w5.drew gr st from hLr5).keeps hK6 (Ne.symm hn2)
      have hLb6 : LotAt 77 w6 gb sb' := (show LotAt 77 w5.drew gb sb' from hLb5).keeps hK6 (Ne.symm hn1)
      have hB6 : Below w.heap.size w w6 := (show Below w.heap.size w w5.drew from ⟨hB5.os, hB5.tape, hB5.output, hB5.size, hB5.block⟩).trans (hK6.below_of hB5.size (fun j hj => by have : j = g := hj; omega))
      go_wp2
      refine hN _ _ ⟨⟨w6, HC6.out⟩, rfl⟩ ?_
      clear hN N
      refine wpE_cons (fun N hN => ?_)
      go_wp2_with fail
      refine (RNext_any gr st x w6 hLr6 hst).mono ?_
      rintro e w7 ⟨rfl, hLr7, hK7, -⟩
      rw [hv.out]
      rw [hst'.out] at hLr7
      have HC7 : Hid (∀ k, k < w5.heap.size → ¬ S k → w7.heap[k]? = w5.heap[k]?) := fun k hk hn => (hK7.block k (by omega) (fun h => hn ((HS.out k).2 (.inr h)))).trans (HC6.out k hk hn)
      have hL7 := hL6.keeps hK7 hn2
      have hLb7 := hLb6.keeps hK7 hn3
      have hB7 : Below w.heap.size w w7 := hB6.trans (hK7.below_of hB6.size (fun j hj => by have : j = gr := hj; omega))
      go_wp2
      refine hN _ _ ⟨⟨w7, HC7.out⟩, rfl⟩ ?_
      clear hN N
      refine wpE_cons (fun N hN => ?_)
      go_wp2
      refine hN _ _ ⟨⟨w7, HC7.out⟩, rfl⟩ ?_
      refine wpE_nil ?_
      clear hN N
      have hst7 : LotOk st' := by rw [← hst'.out]; exact lotStep_ok _
      clear HC6 HC7 hL6 hLr6 hLb6 hK6 hK7 hB6
      go_wp2
      go_roundw
      case rel => exact ⟨k + 1, st', sb', by go_num, by omega, hL7, hLb7, hLr7, hst7, hsb5, hB7⟩
      case measure => simp [intOf]; omega
    · obtain rfl : k = ns.length := by omega
      go_wp2
      go_ret
      exact ⟨rfl, hB⟩
end Go.Proofs.YtngmipppgnlkdaaDoor
