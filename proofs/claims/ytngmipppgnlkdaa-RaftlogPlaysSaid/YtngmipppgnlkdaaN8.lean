/- The law RaftlogPlays, walked. -/
import Derived.Test.YtngmipppgnlkdaaS10
import Derived.Test.YtngmipppgnlkdaaJ
set_option linter.unusedVariables false
set_option linter.unusedSimpArgs false
namespace Go.Proofs.Ytngmipppgnlkdaa
open Go.RowKit
attribute [local go_sem] Same.cell

def PlaysPost (w : World) (e : Ending) (w' : World) : Prop := e = .returned (.bool true) ∧ Below w.heap.size w w'

theorem i64_and7 (n : Int) : bits .and .i64 n 7 = n % 8 := by
  have h3 : (BitVec.ofInt 64 7).toNat = 2 ^ 3 - 1 := by decide
  have key : (BitVec.ofInt 64 n &&& BitVec.ofInt 64 7).toNat = (n % ((2 ^ 64 : Nat) : Int)).toNat % 2 ^ 3 := by
    rw [BitVec.toNat_and, BitVec.toNat_ofInt, h3, Nat.and_two_pow_sub_one_eq_mod]
  show IntKind.i64.wrap ((BitVec.ofInt 64 n &&& BitVec.ofInt 64 7).toNat : Nat) = n % 8
  rw [key, IntKind.wrap_i64]
  omega

theorem RLogAt.new (w : World) : RLogAt (w.alloc (.cells #[.int .i64 0, .int .i64 0, .slice none 0 0] 77)) w.heap.size (fun k => k = w.heap.size) log0 :=
  ⟨.slice none 0 0, heap_alloc_new w _, rfl, OwnS.nil⟩

theorem do_any (g1 g3 : Nat) (F1 F3 G : Foot) (s : LogS) (m : Nat) (w0 w : World) (a : LAct) (A3 : Option Addr) (c3 : Nat) (h : Pair w0 w F1 F3 g1 g3 s) (hI : s.Inv m) (hm : m ≤ 900) (ha : a.Small) (l3 : a.E.length ≤ c3) (r3 : RS kEntry w G A3 a.E.length a.E) (hG : ∀ k, G k → k < w0.heap.size) :
    Calls Try.prog 33 #[.pointer (some ⟨g1, 0, none⟩), .pointer (some ⟨g3, 0, none⟩), .agg #[.int .i64 a.Way, .int .i64 a.N, .int .i64 a.T, .slice A3 a.E.length c3]] w (DoPost w0 w F1 F3 g1 g3 m) := by
  by_cases h0 : a.Way = 0
  · exact do_put g1 g3 F1 F3 G s m w0 w a A3 c3 h hI hm ha l3 r3 hG h0
  by_cases h1 : a.Way = 1
  · exact do_add g1 g3 F1 F3 G s m w0 w a A3 c3 h hI hm ha l3 r3 hG h1
  by_cases h2 : a.Way = 2
  · exact do_cut g1 g3 F1 F3 s m w0 w a A3 c3 h hI hm h2
  by_cases h3 : a.Way = 3
  · exact do_reset g1 g3 F1 F3 s m w0 w a A3 c3 h ha.2.1 h3
  · exact do_none g1 g3 F1 F3 s m w0 w a A3 c3 h hI ⟨h0, h1, h2, h3⟩

set_option maxRecDepth 100000 in
set_option maxHeartbeats 8000000 in
theorem RaftlogPlays_law (A : Option Addr) (c : Nat) (ts : List LAct) (w : World) (F : Foot) (h : RS kLAct w F A ts.length ts) (hc : ts.length ≤ c) (hl : ts.length ≤ 140737488355328) (hL : ∀ a ∈ ts, ∀ x ∈ a.E, x.Cmd.Records.length ≤ 140737488355328) :
    Calls Try.prog 9 #[.slice A ts.length c] w (PlaysPost w) := by
  go_enter Try.func9, Try.ntmps9
  go_wp2_with fail
  refine (alive_any _).mono ?_
  rintro e w1 ⟨rfl, hb1⟩
  go_wp2_with fail
  refine (Big17_any _ _ _ _ _ _ (h.below hb1) hl hL).mono ?_
  rintro e w2 ⟨r, rfl, hr, hb12⟩
  have hb2 : Below w.heap.size w w2 := hb1.trans (hb12.mono hb1.size)
  have Hr := Lib.hid hr
  clear hr hb1 hb12 hL
  cases r
  rotate_left
  · go_wp2
    go_ret
    exact ⟨rfl, hb2⟩
  obtain ⟨hl40, hsm⟩ := Hr.out rfl
  have Hsm := Lib.hid hsm
  clear hsm Hr
  go_wp2_with fail
  have hB1 : Below w.heap.size w ((w2.alloc (.cells #[.int .i64 0, .int .i64 0, .slice none 0 0] 29)).alloc (.cells #[.int .i64 0, .int .i64 0, .slice none 0 0] 29)) := (hb2.alloc hb2.size _).alloc (by have := hb2.size; simp; omega) _
  have hs := hb2.size
  have hN2 : LogAt (((w2.alloc (.cells #[.int .i64 0, .int .i64 0, .slice none 0 0] 29)).alloc (.cells #[.int .i64 0, .int .i64 0, .slice none 0 0] 29)).alloc (.cells #[.int .i64 0, .int .i64 0, .slice none 0 0] 77)) (w2.heap.size + 1) (fun k => k = w2.heap.size + 1) log0 := by
    have := LogAt.new (w2.alloc (.cells #[.int .i64 0, .int .i64 0, .slice none 0 0] 29))
    simp only [World.size_alloc] at this
    exact this.below ((Below.refl _ _).alloc (Nat.le_refl _) _)
  have hP : Pair w (((w2.alloc (.cells #[.int .i64 0, .int .i64 0, .slice none 0 0] 29)).alloc (.cells #[.int .i64 0, .int .i64 0, .slice none 0 0] 29)).alloc (.cells #[.int .i64 0, .int .i64 0, .slice none 0 0] 77)) (fun k => k = w2.heap.size) (fun k => k = w2.heap.size + 2) w2.heap.size (w2.heap.size + 2) log0 := by
    refine ⟨?_, ?_, ?_, ?_, ?_, ?_, ?_, ?_⟩
    · exact ((LogAt.new w2).below ((Below.refl _ _).alloc (Nat.le_refl _) _)).below ((Below.refl _ _).alloc (Nat.le_refl _) _)
    · have := RLogAt.new ((w2.alloc (.cells #[.int .i64 0, .int .i64 0, .slice none 0 0] 29)).alloc (.cells #[.int .i64 0, .int .i64 0, .slice none 0 0] 29))
      simp only [World.size_alloc] at this
      exact this
    · intro k h1 h2; omega
    · intro k h1; simp; omega
    · intro k h1; simp; omega
    · intro k h1; omega
    · intro k h1; omega
    · exact hB1.alloc hB1.size _
  have hI2 : In (fun k => k = w2.heap.size + 1) (((w2.alloc (.cells #[.int .i64 0, .int .i64 0, .slice none 0 0] 29)).alloc (.cells #[.int .i64 0, .int .i64 0, .slice none 0 0] 29)).alloc (.cells #[.int .i64 0, .int .i64 0, .slice none 0 0] 77)) := fun k hk => by simp; omega
  generalize ((w2.alloc (.cells #[.int .i64 0, .int .i64 0, .slice none 0 0] 29)).alloc (.cells #[.int .i64 0, .int .i64 0, .slice none 0 0] 29)).alloc (.cells #[.int .i64 0, .int .i64 0, .slice none 0 0] 77) = w3 at hN2 hP hI2 ⊢
  clear hB1
  generalize w2.heap.size = g at hN2 hP hI2 hs ⊢
  have hI0 : ∀ m, log0.Inv m := fun m => ⟨Int.le_refl _, by show (0 : Int) + 0 ≤ _; omega, Nat.zero_le _, fun x hx => by simp [log0] at hx⟩
  go_loopw [8] (fun q wq => ∃ (i : Nat) (s lo : LogS) (F1 F2 F3 : Foot), q = .int .i64 i ∧ i ≤ ts.length ∧ Pair w wq F1 F3 g (g + 2) s ∧ s.Inv (12 * i) ∧ LogAt wq (g + 1) F2 lo ∧ lo.Inv i ∧ Apart F1 F2 ∧ Apart F3 F2 ∧ In F2 wq ∧ Hid (∀ k, F2 k → w.heap.size ≤ k)) (fun q _ => ts.length - (intOf q).toNat)
  case atStart => exact ⟨0, log0, log0, _, _, _, rfl, Nat.zero_le _, hP, hI0 _, hN2, hI0 _, fun k h1 h2 => by omega, fun k h1 h2 => by omega, hI2, fun k hk => by omega⟩
  case round =>
    obtain ⟨i, s, lo, F1, F2, F3, rfl, hi, hP, hI, hO, hOI, h12, h32, hIn2, ho2⟩ := hrel
    clear hN2 hI2 hI0
    by_cases hlt : i < ts.length
    · obtain ⟨a, ha⟩ : ∃ a, ts[i]? = some a := ⟨_, List.getElem?_eq_getElem hlt⟩
      have hsa := Hsm.out a (List.mem_of_getElem? ha)
      have Ha := Lib.hid ha
      clear ha
      have hok := hOI.ok (by omega)
      have hol := hOI.l1
      go_wp2_with fail
      refine (Add_any (g + 1) F2 NoF lo ⟨(i : Int), command0⟩ none 0 wr hO hok (by omega) (Nat.le_refl 0) (by omega) RS.nil (Nat.zero_le _)).mono ?_
      rintro e w4 ⟨rfl, hO4, hK4⟩
      obtain ⟨la, hla⟩ : ∃ la, Hid ((lo.add ⟨(i : Int), command0⟩).last = la) := ⟨_, rfl⟩
      rw [hla.out]
      have hP4 := hP.keeps hK4 h12 h32 ho2.out
      have h12' : Apart F1 (Grow F2 wr w4) := h12.grow' hP.i1
      have h32' : Apart F3 (Grow F2 wr w4) := h32.grow' hP.i3
      have hIn4 : In (Grow F2 wr w4) w4 := hIn2.grow hK4.size
      have ho4 : Hid (∀ k, Grow F2 wr w4 k → w.heap.size ≤ k) := growOld hP.below.size ho2.out
      have hOI4 := hOI.add (x := ⟨(i : Int), command0⟩) (Nat.zero_le _)
      generalize lo.add ⟨(i : Int), command0⟩ = lo4 at hO4 hOI4
      generalize Grow F2 wr w4 = F2' at hO4 h12' h32' hIn4 ho4
      clear hO hOI h12 h32 hIn2 ho2 hK4 hla hP hok hol
      obtain ⟨ad, A3, c3, hA0, hFa, k0, k1, k2, k3, l3, m3, r3⟩ := at_LAct (h.bound.below hP4.below) Ha.out
      subst hA0
      have had : ad.block < w.heap.size := hFa.2
      go_wp2_with fail
      refine (do_any g (g + 2) F1 F3 _ s (12 * i) w w4 a A3 c3 hP4 hI (by omega) hsa l3 r3 (fun k hk => hk.2)).mono ?_
      rintro e w5 ⟨rfl, F1', F3', s', hP5, hI5, hQ1, hQ3, hK5⟩
      have h12a : Apart F1' F2' := fun k hk hk2 => by
        rcases hQ1 k hk with h | h
        · exact h12' k h hk2
        · have := hIn4 k hk2; omega
      have h32a : Apart F3' F2' := fun k hk hk2 => by
        rcases hQ3 k hk with h | h
        · exact h32' k h hk2
        · have := hIn4 k hk2; omega
      have hO5 := hO4.keeps hK5 (fun k hk hk2 => by
        rcases hk2 with hk2 | hk2
        · exact h12' k hk2 hk
        · exact h32' k hk2 hk)
      have hIn5 := hIn4.mono hK5.size
      clear hO4 h12' h32' hIn4 hQ1 hQ3 hK5 k0 k1 k2 k3 l3 m3 r3
      obtain ⟨ad2, A3', c3', hA0, hFa2, k0, k1, k2, k3, _⟩ := at_LAct (h.bound.below hP5.below) Ha.out
      obtain rfl : ad = ad2 := by injection hA0
      clear hA0
      have had2 : (ad.add (i * 4)).block < w5.heap.size := by rw [block_add]; have := hP5.below.size; omega
      have hNF : ¬ NoF (ad.add (i * 4)).block := id
      obtain ⟨t7, ht7⟩ : ∃ t, bits .and .i64 a.T 7 = t := ⟨_, rfl⟩
      have ht1 : 0 ≤ t7 ∧ t7 ≤ 7 := by rw [i64_and7] at ht7; omega
      have ok5 := hI5.ok (by omega)
      have hl5 := hI5.l1
      have hP5d := hP5.then (drawn_below w5 1)
      go_wp2_with fail
      refine wp_region_plan2 [0, 0, 0, 0, 0, 0, 0, 0, 0, 0, 0, 0, 0, 0, 0, 0, 1, 3, 3, 3, 3, 3, 5, 6, 6] (fun w' => ∃ D : Same NoF w5, w' = D.world) (by kernel_rfl) (by kernel_rfl) InSame.start ?_
      simp only [sel, selE, Nat.reduceEqDiff, reduceIte]
      repeat (go_big_quiet_step (fail))
      refine wpQuiet_nil ?_
      have Ht7 := Lib.hid ht7
      clear ht7
      refine wpE_cons (fun N hN => ?_)
      go_wp2_with fail
      refine (Same17_any g (g + 2) F1' F3' s' _ _ _ hP5d.n1 hP5d.n3 ok5 (by omega) (by omega)).mono ?_
      rintro e w6 ⟨rfl, hb6'⟩
      have hb6 : Below w5.heap.size w5 w6 := below_undrew hb6'
      have hP6 := hP5.then hb6
      go_wp2
      refine hN _ _ (InSame.of_below hb6) ?_
      clear hN N
      repeat (refine wpE_take (fun N hN => ?_); go_big_quiet_step (fail); refine wpQuiet_nil ?_; refine hN _ ?_; clear hN N)
      refine wpE_nil ?_
      refine wpE_cons (fun N hN => ?_)
      go_wp2_with fail
      refine (Same17_any g (g + 2) F1' F3' s' _ _ _ hP6.n1 hP6.n3 ok5 (by omega) (by omega)).mono ?_
      rintro e w7 ⟨rfl, hb67⟩
      have hb7 : Below w5.heap.size w5 w7 := hb6.trans (hb67.mono hb6.size)
      go_wp2
      refine hN _ _ (InSame.of_below hb7) ?_
      clear hN N
      repeat (refine wpE_take (fun N hN => ?_); go_big_quiet_step (fail); refine wpQuiet_nil ?_; refine hN _ ?_; clear hN N)
      refine wpE_nil ?_
      go_wp2
      go_roundw
      case rel => exact ⟨i + 1, s', lo4, F1', F2', F3', by go_num, by omega, hP5.then hb7, hI5.mono (by omega), hO5.below hb7, hOI4, h12a, h32a, hIn5.mono hb7.size, ho4⟩
      case measure => simp [intOf]; omega
    · obtain rfl : i = ts.length := by omega
      go_wp2
      go_ret
      exact ⟨rfl, hP.below⟩
end Go.Proofs.Ytngmipppgnlkdaa
