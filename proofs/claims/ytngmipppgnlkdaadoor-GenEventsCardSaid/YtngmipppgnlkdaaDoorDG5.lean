/- Events: the program's. -/
import Derived.Test.YtngmipppgnlkdaaDoorDG4
import Derived.LoopTactic
set_option linter.unusedVariables false
set_option linter.unusedSimpArgs false
namespace Go.Proofs.YtngmipppgnlkdaaDoor
open Go.RowKit

theorem tEvent : ElemT Tryd.prog 43 52 19 192 := ElemT.mk' (z := .agg #[.int .i64 0, .int .i64 0, .int .i64 0, .int .i64 0, .int .i64 0, .slice none 0 0, .int .i64 0, .int .i64 0, .int .i64 0, .slice none 0 0, .string ⟨#[]⟩, .int .i64 0, .int .i64 0, .int .i64 0, .int .u32 0, .int .i64 0, .int .i64 0, .int .i64 0, .int .i64 0]) Tryd.underlying43 (by kernel_rfl) rfl

/-- The first events of a lot of state st. -/
def genUpto (st n : Int) : Nat → List Event × Int
  | 0 => ([], st)
  | k + 1 => ((genUpto st n k).1 ++ [(genEv (genUpto st n k).2 n k).1], (genEv (genUpto st n k).2 n k).2)
theorem genUpto_len (st n : Int) : ∀ k, (genUpto st n k).1.length = k
  | 0 => rfl
  | k + 1 => by simp [genUpto, genUpto_len st n k]
theorem otherEv_ok (st n : Int) : LotOk (otherEv st n).2 := by
  unfold otherEv
  dsimp only
  repeat' split
  all_goals exact lotStep_ok _
theorem genEv_ok (st n : Int) (i : Nat) : LotOk (genEv st n i).2 := by
  unfold genEv submitEv
  dsimp only
  repeat' split
  all_goals first | exact lotStep_ok _ | exact otherEv_ok _ _
theorem genUpto_ok {st n : Int} (h : LotOk st) : ∀ k, LotOk (genUpto st n k).2
  | 0 => h
  | k + 1 => genEv_ok _ _ _
def clampN (n : Int) : Int := if n < 1 then 1 else if 7 < n then 7 else n
def clampC (c : Int) : Nat := if c < 0 then 0 else if 2000 < c then 2000 else c.toNat
theorem clampC_le (c : Int) : clampC c ≤ 2000 := by unfold clampC; split <;> (try split) <;> omega

theorem max_lt {a b : Int} (h : a < b) : Builtin.max_ #[3, 3] 3 #[.int .i64 a, .int .i64 b] = pure (.int .i64 b) := by
  simp [Builtin.max_, Builtin.max2, h]
theorem max_ge {a b : Int} (h : b ≤ a) : Builtin.max_ #[3, 3] 3 #[.int .i64 a, .int .i64 b] = pure (.int .i64 a) := by
  simp [Builtin.max_, Builtin.max2, show ¬ a < b by omega]
theorem min_lt {a b : Int} (h : b < a) : Builtin.min_ #[3, 3] 3 #[.int .i64 a, .int .i64 b] = pure (.int .i64 b) := by
  simp [Builtin.min_, Builtin.min2, h]
theorem min_ge {a b : Int} (h : a ≤ b) : Builtin.min_ #[3, 3] 3 #[.int .i64 a, .int .i64 b] = pure (.int .i64 a) := by
  simp [Builtin.min_, Builtin.min2, show ¬ b < a by omega]
theorem clampN_by (n : Int) : ∃ m, Builtin.max_ #[3, 3] 3 #[.int .i64 1, .int .i64 n] = pure (.int .i64 m) ∧ Builtin.min_ #[3, 3] 3 #[.int .i64 m, .int .i64 7] = pure (.int .i64 (clampN n)) := by
  unfold clampN
  by_cases h1 : n < 1
  · rw [if_pos h1]
    exact ⟨1, max_ge (by omega), min_ge (by omega)⟩
  · rw [if_neg h1]
    by_cases h7 : 7 < n
    · rw [if_pos h7]
      exact ⟨n, max_lt (by omega), min_lt h7⟩
    · rw [if_neg h7]
      by_cases h : n = 1
      · subst h; exact ⟨1, max_ge (by omega), min_ge (by omega)⟩
      · exact ⟨n, max_lt (by omega), min_ge (by omega)⟩
theorem clampC_by (c : Int) : ∃ m, Builtin.max_ #[3, 3] 3 #[.int .i64 0, .int .i64 c] = pure (.int .i64 m) ∧ Builtin.min_ #[3, 3] 3 #[.int .i64 m, .int .i64 2000] = pure (.int .i64 (clampC c : Int)) := by
  unfold clampC
  by_cases h1 : c < 0
  · rw [if_pos h1]
    exact ⟨0, max_ge (by omega), min_ge (by omega)⟩
  · rw [if_neg h1]
    by_cases h7 : 2000 < c
    · rw [if_pos h7]
      exact ⟨c, max_lt (by omega), min_lt h7⟩
    · rw [if_neg h7]
      have e : ((c.toNat : Nat) : Int) = c := by omega
      rw [e]
      by_cases h : c = 0
      · subst h; exact ⟨0, max_ge (by omega), min_ge (by omega)⟩
      · exact ⟨c, max_lt (by omega), min_ge (by omega)⟩

set_option maxRecDepth 100000 in
set_option maxHeartbeats 4000000 in
theorem Events_any (seed n count : Int) (B : Nat) (w : World) (hB : B ≤ w.heap.size) (hT : clampC count ≤ 100 ∨ PowBelow B w) :
    Calls Tryd.prog 20 #[.int .i64 seed, .int .i64 n, .int .i64 count] w fun e w' => ∃ v, e = .returned v ∧ Made kEvent 52 w w' (New w w') v (genUpto (seed % 4294967296) (clampN n) (clampC count)).1 := by
  obtain ⟨m1, hx1, hn1⟩ := clampN_by n
  obtain ⟨m2, hx2, hn2⟩ := clampC_by count
  have hC := clampC_le count
  have ok0 := lot0_ok seed
  generalize clampN n = N at hn1 ⊢
  generalize clampC count = C at hn2 hC hT ⊢
  have hT' := Lib.hid hT
  clear hT
  obtain ⟨s0, hs0⟩ : ∃ s, Hid (seed % 4294967296 = s) := ⟨_, rfl⟩
  rw [hs0.out] at ok0 ⊢
  go_enter Tryd.func20, Tryd.ntmps20
  go_wp2_with fail
  refine (New_any seed w).mono ?_
  rintro e w1 ⟨rfl, hL1, hB1, -⟩
  rw [hs0.out] at hL1
  obtain ⟨g, hg, hgw⟩ : ∃ g, w.heap.size = g ∧ g < w1.heap.size := ⟨_, rfl, hL1.lt⟩
  rw [hg] at hL1 hB1 hB ⊢
  have Hg := Lib.hid hg
  clear hg
  go_wp2_with fail
  clear hx1 hn1 hx2 hn2
  go_loopw [8, 18] (fun v q wr => ∃ k : Nat, q = .int .i64 k ∧ k ≤ C ∧ OwnS kEvent 52 wr (fun j => g < j) v (genUpto s0 N k).1 ∧ LotAt 77 wr g (genUpto s0 N k).2 ∧ Below g w wr) (fun v q _ => C - (intOf q).toNat)
  case atStart => exact ⟨0, rfl, Nat.zero_le _, OwnS.nil, hL1, hB1⟩
  case round =>
    obtain ⟨k, rfl, hk, hO, hL, hW⟩ := hrel
    have hokk := genUpto_ok (n := N) ok0 k
    have hlen := genUpto_len s0 N k
    have hnext : (genUpto s0 N (k + 1)) = ((genUpto s0 N k).1 ++ [(genEv (genUpto s0 N k).2 N k).1], (genEv (genUpto s0 N k).2 N k).2) := rfl
    generalize hq : genUpto s0 N k = r0 at hO hL hokk hlen hnext
    obtain ⟨l0, st⟩ := r0
    have Hq := Lib.hid hq
    clear hq
    dsimp only at hO hL hokk hlen hnext
    obtain ⟨A0, n0, c0, rfl⟩ := hO.shape
    have Hnext := Lib.hid hnext
    have Hlen := Lib.hid hlen
    clear hnext hlen
    by_cases hlt : k < C
    · have hTk : k < 100 ∨ PowBelow B wr := hT'.out.imp (fun h => by omega) fun h => h.on (hW.mono hB)
      obtain ⟨x, s', hr⟩ : ∃ x s', Hid (genEv st N k = (x, s')) := ⟨_, _, rfl⟩
      have hgr := hL.lt
      go_wp2_with fail
      refine (event_any g st N k (by omega) B wr hL hokk hB hTk).mono ?_
      rw [hr.out]
      rintro e w2 ⟨A5, c5, A9, c9, rfl, ha, hL2, hK2⟩
      dsimp only at ha hL2 ⊢
      have hs2 := hK2.size
      have hO2 := hO.keeps hK2 (fun j hj hj2 => by have : j = g := hj2; have : g < j := hj; omega)
      have hr3 : RS kEvent (w2.alloc (.cells #[.int .i64 x.Kind, .int .i64 x.Node, .int .i64 x.Message, .int .i64 x.Keep, .int .i64 x.What, .slice A5 x.Fault.length c5, .int .i64 x.Cmd.Kind, .int .i64 x.Cmd.Pid, .int .i64 x.Cmd.Seq, .slice A9 x.Cmd.Records.length c9, .string x.Cmd.Group, .int .i64 x.Cmd.Offset, .int .i64 x.Cmd.Max, .int .i64 x.Cmd.Now, .int .u32 x.Cmd.Sum, .int .i64 x.Cmd.Conf.Segment, .int .i64 x.Cmd.Conf.Keep, .int .i64 x.Cmd.Conf.Age, .int .i64 x.Cmd.Conf.Grace] 52)) (fun j => New wr w2 j ∨ j = w2.heap.size) (some ⟨w2.heap.size, 0, none⟩) 1 [x] :=
        RS.lit w2 (xs := [x]) (Elems.single (K := kEvent) ha.rep)
      have hO3 := hO2.below ((Below.refl w2.heap.size w2).alloc (Nat.le_refl _) (.cells #[.int .i64 x.Kind, .int .i64 x.Node, .int .i64 x.Message, .int .i64 x.Keep, .int .i64 x.What, .slice A5 x.Fault.length c5, .int .i64 x.Cmd.Kind, .int .i64 x.Cmd.Pid, .int .i64 x.Cmd.Seq, .slice A9 x.Cmd.Records.length c9, .string x.Cmd.Group, .int .i64 x.Cmd.Offset, .int .i64 x.Cmd.Max, .int .i64 x.Cmd.Now, .int .u32 x.Cmd.Sum, .int .i64 x.Cmd.Conf.Segment, .int .i64 x.Cmd.Conf.Keep, .int .i64 x.Cmd.Conf.Age, .int .i64 x.Cmd.Conf.Grace] 52))
      have hL3 := hL2.below ((Below.refl w2.heap.size w2).alloc (Nat.le_refl _) (.cells #[.int .i64 x.Kind, .int .i64 x.Node, .int .i64 x.Message, .int .i64 x.Keep, .int .i64 x.What, .slice A5 x.Fault.length c5, .int .i64 x.Cmd.Kind, .int .i64 x.Cmd.Pid, .int .i64 x.Cmd.Seq, .slice A9 x.Cmd.Records.length c9, .string x.Cmd.Group, .int .i64 x.Cmd.Offset, .int .i64 x.Cmd.Max, .int .i64 x.Cmd.Now, .int .u32 x.Cmd.Sum, .int .i64 x.Cmd.Conf.Segment, .int .i64 x.Cmd.Conf.Keep, .int .i64 x.Cmd.Conf.Age, .int .i64 x.Cmd.Conf.Grace] 52))
      have hW2 : Below g w w2 := ⟨hK2.os.trans hW.os, hK2.tape.trans hW.tape, hK2.output.trans hW.output, Nat.le_trans hW.size hK2.size, fun j hj => (hK2.block j (by have := hgr; omega) (fun e => by have : j = g := e; omega)).trans (hW.block j hj)⟩
      have hW3 : Below g w (w2.alloc (.cells #[.int .i64 x.Kind, .int .i64 x.Node, .int .i64 x.Message, .int .i64 x.Keep, .int .i64 x.What, .slice A5 x.Fault.length c5, .int .i64 x.Cmd.Kind, .int .i64 x.Cmd.Pid, .int .i64 x.Cmd.Seq, .slice A9 x.Cmd.Records.length c9, .string x.Cmd.Group, .int .i64 x.Cmd.Offset, .int .i64 x.Cmd.Max, .int .i64 x.Cmd.Now, .int .u32 x.Cmd.Sum, .int .i64 x.Cmd.Conf.Segment, .int .i64 x.Cmd.Conf.Keep, .int .i64 x.Cmd.Conf.Age, .int .i64 x.Cmd.Conf.Grace] 52)) := hW2.alloc (by omega) _
      have hs3 : (w2.alloc (.cells #[.int .i64 x.Kind, .int .i64 x.Node, .int .i64 x.Message, .int .i64 x.Keep, .int .i64 x.What, .slice A5 x.Fault.length c5, .int .i64 x.Cmd.Kind, .int .i64 x.Cmd.Pid, .int .i64 x.Cmd.Seq, .slice A9 x.Cmd.Records.length c9, .string x.Cmd.Group, .int .i64 x.Cmd.Offset, .int .i64 x.Cmd.Max, .int .i64 x.Cmd.Now, .int .u32 x.Cmd.Sum, .int .i64 x.Cmd.Conf.Segment, .int .i64 x.Cmd.Conf.Keep, .int .i64 x.Cmd.Conf.Age, .int .i64 x.Cmd.Conf.Grace] 52)).heap.size = w2.heap.size + 1 := by simp
      go_wp2_with (first
        | (at_builtin
           refine wpList_append_S rfl tEvent (.tmp 21) (.tmp 26) rfl (K := kEvent) rfl rfl hO3 hr3 ?_ ?_ ?_ ?_))
      · intro j hj hj2
        have h1 := (hO.lt j hj).2
        rcases hj2 with hj2 | hj2
        · have := hj2.1; omega
        · omega
      · rw [Hlen.out]; omega
      · rw [Hlen.out]; omega
      intro v4 w4 hA
      obtain ⟨A7, n7, c7, rfl⟩ := hA.own.shape
      have hs4 := hA.grown.size
      have hL4 : LotAt 77 w4 g s' := (hA.grown.block g (by omega) (fun e => by have : g < g := (hO.lt g e.symm).1; omega)).trans hL3
      have hW4 : Below g w w4 := hW3.grown hA.grown (by omega) (fun j hj => by have : g < j := (hO.lt j hj).1; omega)
      have hO4 : OwnS kEvent 52 w4 (fun j => g < j) (.slice A7 n7 c7) (genUpto s0 N (k + 1)).1 := by
        rw [Hnext.out, hr.out]
        refine hA.own.mono fun j hj => ?_
        rcases hj with hj | hj | hj
        · exact hj
        · rcases hj with hj | hj
          · have := hj.1; show g < j; omega
          · show g < j; omega
        · have := hj.1; show g < j; omega
      have hL5 : LotAt 77 w4 g (genUpto s0 N (k + 1)).2 := by rw [Hnext.out, hr.out]; exact hL4
      clear hA hO3 hL3 hW3 hr3 hL4
      go_wp2
      go_roundw
      case rel => exact ⟨k + 1, by go_num, by omega, hO4, hL5, hW4⟩
      case measure => simp [intOf]; omega
    · obtain rfl : k = C := by omega
      go_wp2
      go_ret
      rw [Hq.out]
      refine ⟨_, rfl, hO.bound.mono fun j hj => ?_, fun j hj => ?_, by rw [Hg.out]; exact hW⟩
      · have h1 : g < j := hj.1
        have h2 := Hg.out
        exact ⟨by omega, hj.2⟩
      · have h1 : g < j := (hO.lt j hj).1
        have h2 := Hg.out
        omega

set_option maxRecDepth 100000 in
set_option maxHeartbeats 1000000 in
theorem galive_any (w : World) : Calls Tryd.prog 15 #[] w fun e w' => e = .returned (.bool true) ∧ Below w.heap.size w w' := by
  go_enter Tryd.func15, Tryd.ntmps15
  go_wp2_with fail
  refine (Events_any 0 1 0 0 w (Nat.zero_le _) (.inl (by decide))).mono ?_
  rintro e w1 ⟨v, rfl, hM⟩
  obtain ⟨A1, c1, rfl, -, -, -⟩ := hM.own.reads
  have hb1 := hM.below
  have e1 : (genUpto (0 % 4294967296) (clampN 1) (clampC 0)).1.length = 0 := genUpto_len _ _ _
  rw [e1]
  clear e1 hM
  go_wp2_with fail
  refine (Events_any 0 1 3 0 w1 (Nat.zero_le _) (.inl (by decide))).mono ?_
  rintro e w2 ⟨v, rfl, hM⟩
  obtain ⟨A2, c2, rfl, -, -, -⟩ := hM.own.reads
  have hb2 := hM.below
  have e1 : (genUpto (0 % 4294967296) (clampN 1) (clampC 3)).1.length = 3 := genUpto_len _ _ _
  rw [e1]
  clear e1 hM
  go_wp2_with fail
  go_ret
  exact ⟨rfl, hb1.trans (hb2.mono hb1.size)⟩
end Go.Proofs.YtngmipppgnlkdaaDoor
