/- Events: the reference's. -/
import Derived.Test.YtngmipppgnlkdaaDoorDH1
import Derived.LoopTactic
import Derived.Deep.CutRange
import Derived.Deep.CutBlock
set_option linter.unusedVariables false
set_option linter.unusedSimpArgs false
namespace Go.Proofs.YtngmipppgnlkdaaDoor
open Go.RowKit

/-- A round's world: a reference's lot of state st at block g, cells cs in the event's block b; the rest as in w. -/
structure EvR (w : World) (g b : Nat) (st : Int) (cs : Array Value) (wi : World) : Prop where
  lot : LotAt 79 wi g st
  box : wi.heap[b]? = some (.cells cs 52 (0, 0))
  keep : Keeps (fun k => k = g) w wi
  own : w.heap.size ≤ b
  ne : b ≠ g
section
variable {w wi wj : World} {g b : Nat} {st st' : Int} {cs cs' : Array Value}
theorem EvR.lt (h : EvR w g b st cs wi) : b < wi.heap.size := (Array.getElem?_eq_some_iff.1 h.box).1
theorem EvR.next (h : EvR w g b st cs wi) (hl : LotAt 79 wj g st') (hk : Keeps (fun k => k = g) wi wj) : EvR w g b st' cs wj :=
  ⟨hl, (hk.block b h.lt h.ne).trans h.box, h.keep.trans hk, h.own, h.ne⟩
theorem EvR.store (h : EvR w g b st cs wi) (hb : wj.heap[b]? = some (.cells cs' 52 (0, 0))) (hk : Keeps (fun k => k = b) wi wj) : EvR w g b st cs' wj :=
  ⟨h.lot.keeps hk (Ne.symm h.ne), hb, h.keep.step hk fun k hk hlt => by have : k = b := hk; have := h.own; omega, h.own, h.ne⟩
theorem EvR.below (h : EvR w g b st cs wi) (hb : Below wi.heap.size wi wj) : EvR w g b st cs wj :=
  ⟨h.lot.below hb, (hb.block b h.lt).trans h.box, h.keep.then_below hb, h.own, h.ne⟩
end
/-- The event is laid. -/
def RAt (w : World) (g b : Nat) (r : Event × Int) (wx : World) : Prop :=
  ∃ (A5 : Option Addr) (c5 : Nat) (A9 : Option Addr) (c9 : Nat), EvAt wx (New w wx) r.1 A5 c5 A9 c9 ∧ EvR w g b r.2 #[.int .i64 r.1.Kind, .int .i64 r.1.Node, .int .i64 r.1.Message, .int .i64 r.1.Keep, .int .i64 r.1.What, .slice A5 r.1.Fault.length c5, .int .i64 r.1.Cmd.Kind, .int .i64 r.1.Cmd.Pid, .int .i64 r.1.Cmd.Seq, .slice A9 r.1.Cmd.Records.length c9, .string r.1.Cmd.Group, .int .i64 r.1.Cmd.Offset, .int .i64 r.1.Cmd.Max, .int .i64 r.1.Cmd.Now, .int .u32 r.1.Cmd.Sum, .int .i64 r.1.Cmd.Conf.Segment, .int .i64 r.1.Cmd.Conf.Keep, .int .i64 r.1.Cmd.Conf.Age, .int .i64 r.1.Cmd.Conf.Grace] wx
theorem EvR.at {w wi : World} {g b : Nat} {k node msg what st : Int} (h : EvR w g b st #[.int .i64 k, .int .i64 node, .int .i64 msg, .int .i64 0, .int .i64 what, .slice none 0 0, .int .i64 0, .int .i64 0, .int .i64 0, .slice none 0 0, .string ⟨#[]⟩, .int .i64 0, .int .i64 0, .int .i64 0, .int .u32 0, .int .i64 0, .int .i64 0, .int .i64 0, .int .i64 0] wi) : RAt w g b (evOf k node msg what, st) wi :=
  ⟨none, 0, none, 0, ⟨Nat.le_refl _, by omega, RS.nil, Nat.le_refl _, by omega, RS.nil⟩, h⟩
theorem clampC_cut (c : Int) : (if c < 0 then 0 else if 2000 < c then 2000 else c) = (clampC c : Int) := by
  unfold clampC
  split
  · rfl
  · split
    · rfl
    · omega

set_option maxRecDepth 100000 in
set_option maxHeartbeats 4000000 in
theorem RGen_any (seed n count : Int) (w : World) :
    Calls Tryd.prog 21 #[.int .i64 seed, .int .i64 n, .int .i64 count] w fun e w' => ∃ v, e = .returned v ∧ Made kEvent 52 w w' (New w w') v (genUpto (seed % 4294967296) (clampN n) (clampC count)).1 := by
  have hn1 := rcut_any n 1 7 w (by omega)
  rw [show (if n < 1 then 1 else if 7 < n then 7 else n) = clampN n from rfl] at hn1
  have hn2 := rcut_any count 0 2000 w (by omega)
  rw [clampC_cut] at hn2
  have hC := clampC_le count
  have ok0 := lot0_ok seed
  generalize clampN n = N at hn1 ⊢
  generalize clampC count = C at hn2 hC ⊢
  obtain ⟨s0, hs0⟩ : ∃ s, Hid (seed % 4294967296 = s) := ⟨_, rfl⟩
  rw [hs0.out] at ok0 ⊢
  go_enter Tryd.func21, Tryd.ntmps21
  go_wp2_with fail
  refine hn1.mono ?_
  rintro e w ⟨rfl, rfl⟩
  go_wp2_with fail
  refine hn2.mono ?_
  rintro e w ⟨rfl, rfl⟩
  clear hn1 hn2
  go_wp2_with fail
  refine (RNew_any seed w).mono ?_
  rintro e w1 ⟨rfl, hL1, hB1, -⟩
  rw [hs0.out] at hL1
  obtain ⟨g, hg, hgw⟩ : ∃ g, w.heap.size = g ∧ g < w1.heap.size := ⟨_, rfl, hL1.lt⟩
  rw [hg] at hL1 hB1 ⊢
  have Hg := Lib.hid hg
  clear hg
  go_wp2_with fail
  go_loopw [8, 9] (fun v q wr => ∃ k : Nat, q = .int .i64 k ∧ k ≤ C ∧ OwnS kEvent 52 wr (fun j => g < j) v (genUpto s0 N k).1 ∧ LotAt 79 wr g (genUpto s0 N k).2 ∧ Below g w wr) (fun v q _ => C - (intOf q).toNat)
  case atStart => exact ⟨0, rfl, Nat.zero_le _, OwnS.nil, hL1, hB1⟩
  case round =>
    obtain ⟨k, rfl, hk, hO, hL, hW⟩ := hrel
    have hokk := genUpto_ok (n := N) ok0 k
    have hlen := genUpto_len s0 N k
    have hnext : (genUpto s0 N (k + 1)) = ((genUpto s0 N k).1 ++ [(genEv (genUpto s0 N k).2 N k).1], (genEv (genUpto s0 N k).2 N k).2) := rfl
    generalize hq : genUpto s0 N k = r0 at hO hL hokk hlen hnext
    obtain ⟨l0, st⟩ := r0
    have Hq := Lib.hid hq
    clear hq
    dsimp only at hO hL hokk hlen hnext
    obtain ⟨A0, n0, c0, rfl⟩ := hO.shape
    have Hnext := Lib.hid hnext
    have Hlen := Lib.hid hlen
    clear hnext hlen
    by_cases hlt : k < C
    · obtain ⟨s1, hs1⟩ : ∃ s, Hid (lotStep st = s) := ⟨_, rfl⟩
      obtain ⟨s2, hs2⟩ : ∃ s, Hid (lotStep s1 = s) := ⟨_, rfl⟩
      obtain ⟨s3, hs3⟩ : ∃ s, Hid (lotStep s2 = s) := ⟨_, rfl⟩
      obtain ⟨s4, hs4⟩ : ∃ s, Hid (lotStep s3 = s) := ⟨_, rfl⟩
      have ok1 : LotOk s1 := by rw [← hs1.out]; exact lotStep_ok _
      have ok2 : LotOk s2 := by rw [← hs2.out]; exact lotStep_ok _
      have ok3 : LotOk s3 := by rw [← hs3.out]; exact lotStep_ok _
      obtain ⟨o, ho⟩ : ∃ o, Hid (lotVal s1 12 = o) := ⟨_, rfl⟩
      obtain ⟨v, hv⟩ : ∃ v, Hid (lotVal s2 N = v) := ⟨_, rfl⟩
      obtain ⟨v9, hv9⟩ : ∃ v, Hid (lotVal s2 9 = v) := ⟨_, rfl⟩
      obtain ⟨rs, hrs⟩ : ∃ r, Hid (submitEv s1 N k = r) := ⟨_, rfl⟩
      obtain ⟨ro, hro⟩ : ∃ r, Hid (otherEv s1 N = r) := ⟨_, rfl⟩
      obtain ⟨r, hr⟩ : ∃ r, Hid (genEv st N k = r) := ⟨_, rfl⟩
      have Hev : Hid (r = if o < 4 then (evOf 1 v 0 0, s2) else if o < 9 then (evOf 2 0 v9 0, s2) else if o < 10 then rs else if o < 11 then (evOf 3 0 v9 0, s2) else ro) := by
        show r = _
        rw [← hr.out]
        unfold genEv
        simp only [hs1.out, hs2.out, ho.out, hv.out, hv9.out, hrs.out, hro.out]
      go_wp2_with fail
      refine (RNext_any g st 12 wr hL hokk).mono ?_
      rintro e w1 ⟨rfl, hL1, hK1, -⟩
      rw [hs1.out] at hL1
      rw [hs1.out, ho.out]
      go_wp2_with (refine wpList_alloc_box 52 (.agg #[.int .i64 0, .int .i64 0, .int .i64 0, .int .i64 0, .int .i64 0, .slice none 0 0, .int .i64 0, .int .i64 0, .int .i64 0, .slice none 0 0, .string ⟨#[]⟩, .int .i64 0, .int .i64 0, .int .i64 0, .int .u32 0, .int .i64 0, .int .i64 0, .int .i64 0, .int .i64 0]) rfl rfl (by kernel_rfl) ?_)
      intro w2 hc2 hB2
      have hE : EvR wr g w1.heap.size s1 #[.int .i64 0, .int .i64 0, .int .i64 0, .int .i64 0, .int .i64 0, .slice none 0 0, .int .i64 0, .int .i64 0, .int .i64 0, .slice none 0 0, .string ⟨#[]⟩, .int .i64 0, .int .i64 0, .int .i64 0, .int .u32 0, .int .i64 0, .int .i64 0, .int .i64 0, .int .i64 0] w2 := ⟨hL1.below hB2, hc2, hK1.then_below hB2, hK1.size, by have := hL1.lt; omega⟩
      clear hc2 hB2 hL1 hK1
      generalize w1.heap.size = b at hE ⊢
      go_upto_block 2 with fail
      go_cut [12, 13] from 20 to 97 (fun _ _ wx => RAt wr g b r wx)
      case first =>
        by_cases c0 : o < 4
        · go_wp2_with fail
          refine (RNext_any g s1 N w2 hE.lot ok1).mono ?_
          rintro e w3 ⟨rfl, hL, hK, -⟩
          rw [hs2.out] at hL
          rw [hs2.out, hv.out]
          have hE3 := hE.next hL hK
          clear hL hK
          go_wp2_with (refine wpList_store_box 52 (.tmp 11) (.tmp 59) b #[.int .i64 1, .int .i64 v, .int .i64 0, .int .i64 0, .int .i64 0, .slice none 0 0, .int .i64 0, .int .i64 0, .int .i64 0, .slice none 0 0, .string ⟨#[]⟩, .int .i64 0, .int .i64 0, .int .i64 0, .int .u32 0, .int .i64 0, .int .i64 0, .int .i64 0, .int .i64 0] 52 #[.int .i64 0, .int .i64 0, .int .i64 0, .int .i64 0, .int .i64 0, .slice none 0 0, .int .i64 0, .int .i64 0, .int .i64 0, .slice none 0 0, .string ⟨#[]⟩, .int .i64 0, .int .i64 0, .int .i64 0, .int .u32 0, .int .i64 0, .int .i64 0, .int .i64 0, .int .i64 0] rfl rfl rfl rfl hE3.box (by kernel_rfl) rfl rfl ?_)
          intro w4 hw1 hw2
          have hE4 := Lib.hid (hE3.store hw1 hw2)
          clear hw1 hw2 hE3
          go_wp2
          go_meet
          rw [Hev.out, if_pos (show o < 4 by omega)]
          exact hE4.out.at
        by_cases c1 : o < 9
        · go_wp2_with fail
          refine (RNext_any g s1 9 w2 hE.lot ok1).mono ?_
          rintro e w3 ⟨rfl, hL, hK, -⟩
          rw [hs2.out] at hL
          rw [hs2.out, hv9.out]
          have hE3 := hE.next hL hK
          clear hL hK
          go_wp2_with (refine wpList_store_box 52 (.tmp 11) (.tmp 65) b #[.int .i64 2, .int .i64 0, .int .i64 v9, .int .i64 0, .int .i64 0, .slice none 0 0, .int .i64 0, .int .i64 0, .int .i64 0, .slice none 0 0, .string ⟨#[]⟩, .int .i64 0, .int .i64 0, .int .i64 0, .int .u32 0, .int .i64 0, .int .i64 0, .int .i64 0, .int .i64 0] 52 #[.int .i64 0, .int .i64 0, .int .i64 0, .int .i64 0, .int .i64 0, .slice none 0 0, .int .i64 0, .int .i64 0, .int .i64 0, .slice none 0 0, .string ⟨#[]⟩, .int .i64 0, .int .i64 0, .int .i64 0, .int .u32 0, .int .i64 0, .int .i64 0, .int .i64 0, .int .i64 0] rfl rfl rfl rfl hE3.box (by kernel_rfl) rfl rfl ?_)
          intro w4 hw1 hw2
          have hE4 := Lib.hid (hE3.store hw1 hw2)
          clear hw1 hw2 hE3
          go_wp2
          go_meet
          rw [Hev.out, if_neg (show ¬ o < 4 by omega), if_pos (show o < 9 by omega)]
          exact hE4.out.at
        by_cases c2 : o = 9
        · subst c2
          obtain ⟨tm, htm⟩ : ∃ v, Hid (lotVal s3 50 = v) := ⟨_, rfl⟩
          obtain ⟨kk, hkk, hk4⟩ : ∃ k : Nat, Hid (lotVal s4 4 = k) ∧ k < 4 := ⟨(lotVal s4 4).toNat, by
            show lotVal s4 4 = _
            have := lotVal_nonneg s4 4; omega, by
            have := lotVal_lt s4 4 (by omega); have := lotVal_nonneg s4 4; omega⟩
          have hrs2 : Hid (rs = (subOf v tm kk k, s4)) := by
            show rs = _
            rw [← hrs.out]
            exact submitEv_eq hs2.out hs3.out hs4.out hv.out htm.out hkk.out
          go_wp2_with fail
          refine (RNext_any g s1 N w2 hE.lot ok1).mono ?_
          rintro e w3 ⟨rfl, hL, hK, -⟩
          rw [hs2.out] at hL
          rw [hs2.out, hv.out]
          have hE3 := hE.next hL hK
          clear hL hK
          go_wp2_with (refine wpList_store_box 52 (.tmp 11) (.tmp 72) b #[.int .i64 7, .int .i64 v, .int .i64 0, .int .i64 0, .int .i64 0, .slice none 0 0, .int .i64 0, .int .i64 0, .int .i64 0, .slice none 0 0, .string ⟨#[]⟩, .int .i64 0, .int .i64 0, .int .i64 0, .int .u32 0, .int .i64 0, .int .i64 0, .int .i64 0, .int .i64 0] 52 #[.int .i64 0, .int .i64 0, .int .i64 0, .int .i64 0, .int .i64 0, .slice none 0 0, .int .i64 0, .int .i64 0, .int .i64 0, .slice none 0 0, .string ⟨#[]⟩, .int .i64 0, .int .i64 0, .int .i64 0, .int .u32 0, .int .i64 0, .int .i64 0, .int .i64 0, .int .i64 0] rfl rfl rfl rfl hE3.box (by kernel_rfl) rfl rfl ?_)
          intro w4 hw1 hw2
          have hE4 := hE3.store hw1 hw2
          clear hw1 hw2 hE3
          go_wp2_with fail
          refine (RNext_any g s2 50 w4 hE4.lot ok2).mono ?_
          rintro e w5 ⟨rfl, hL, hK, -⟩
          rw [hs3.out] at hL
          rw [hs3.out, htm.out]
          have hE5 := hE4.next hL hK
          clear hL hK hE4
          go_wp2_with fail
          refine (RNext_any g s3 4 w5 hE5.lot ok3).mono ?_
          rintro e w6 ⟨rfl, hL, hK, -⟩
          rw [hs4.out] at hL
          rw [hs4.out, hkk.out]
          have hE6 := hE5.next hL hK
          clear hL hK hE5
          go_wp2_with fail
          refine (Digits_any kk (by omega) w6).mono ?_
          rintro e w6 ⟨rfl, rfl⟩
          have hks := dec_size kk
          have hisz := dec_size k
          go_wp2_with fail
          refine (Digits_any k (by omega) w6).mono ?_
          rintro e w6 ⟨rfl, rfl⟩
          have hE7 := hE6.below ((Below.refl _ _).alloc (Nat.le_refl _) (.cells #[.int .i64 0, .int .i64 tm, .string (⟨#[107]⟩ ++ dec kk), .string (⟨#[118]⟩ ++ dec k), .bool false] 84))
          have hq7 := heap_alloc_new w6 (.cells #[.int .i64 0, .int .i64 tm, .string (⟨#[107]⟩ ++ dec kk), .string (⟨#[118]⟩ ++ dec k), .bool false] 84)
          have hown : wr.heap.size ≤ w6.heap.size := Nat.le_trans hE6.own (Nat.le_of_lt hE6.lt)
          have hbq : b < w6.heap.size := hE6.lt
          have hgq : g < w6.heap.size := hE6.lot.lt
          have HH := Lib.hid (And.intro hE7 hq7)
          clear hE6 hE7 hq7
          go_wp2_with (refine wpList_store_part 50 (.tmp 87) (.tmp 86) b 6 #[.int .i64 1, .int .i64 0, .int .i64 0, .slice (some ⟨w6.heap.size, 0, none⟩) 1 1, .string ⟨#[]⟩, .int .i64 0, .int .i64 0, .int .i64 0, .int .u32 0, .int .i64 0, .int .i64 0, .int .i64 0, .int .i64 0] 52 #[.int .i64 7, .int .i64 v, .int .i64 0, .int .i64 0, .int .i64 0, .slice none 0 0, .int .i64 0, .int .i64 0, .int .i64 0, .slice none 0 0, .string ⟨#[]⟩, .int .i64 0, .int .i64 0, .int .i64 0, .int .u32 0, .int .i64 0, .int .i64 0, .int .i64 0, .int .i64 0] #[.int .i64 7, .int .i64 v, .int .i64 0, .int .i64 0, .int .i64 0, .slice none 0 0, .int .i64 1, .int .i64 0, .int .i64 0, .slice (some ⟨w6.heap.size, 0, none⟩) 1 1, .string ⟨#[]⟩, .int .i64 0, .int .i64 0, .int .i64 0, .int .u32 0, .int .i64 0, .int .i64 0, .int .i64 0, .int .i64 0] rfl rfl rfl rfl HH.out.1.box (by kernel_rfl) (by simp) rfl rfl ?_)
          obtain ⟨hE7, hq7⟩ := HH.out
          generalize w6.alloc (.cells #[.int .i64 0, .int .i64 tm, .string (⟨#[107]⟩ ++ dec kk), .string (⟨#[118]⟩ ++ dec k), .bool false] 84) = w7 at hE7 hq7 ⊢
          clear HH
          generalize w6.heap.size = q at hq7 hown hbq hgq ⊢
          intro w8 hw1 hw2
          have hE8 := hE7.store hw1 hw2
          have hq8 := (hw2.block q (Array.getElem?_eq_some_iff.1 hq7).1 (fun hk => by have : q = b := hk; omega)).trans hq7
          have HW := Lib.hid (And.intro hE8 hq8)
          clear hw1 hw2 hE8 hq8 hE7 hq7
          go_wp2
          go_meet
          obtain ⟨hE8, hq8⟩ := HW.out
          rw [Hev.out, if_neg (show ¬ (9:Int) < 4 by omega), if_neg (show ¬ (9:Int) < 9 by omega), if_pos (show (9:Int) < 10 by omega), hrs2.out]
          have hqs := (Array.getElem?_eq_some_iff.1 hq8).1
          refine ⟨none, 0, some ⟨q, 0, none⟩, 1, ⟨Nat.le_refl _, by omega, RS.nil, Nat.le_refl _, by omega, ⟨rfl, _, Elems.single (K := kRecord) rfl, fun _ => ⟨⟨q, 0, none⟩, rfl, ⟨hown, hqs⟩, fun j u hu => ?_⟩⟩⟩, hE8⟩
          rw [Addr.add_lit, Nat.zero_add, cell_of_row w8 q j _ _ _ hq8]
          simpa [key, val] using hu
        have e2 : (o == 9) = false := by rw [beq_eq_false_iff_ne]; exact c2
        by_cases c3 : o = 10
        · subst c3
          go_wp2_with fail
          refine (RNext_any g s1 9 w2 hE.lot ok1).mono ?_
          rintro e w3 ⟨rfl, hL, hK, -⟩
          rw [hs2.out] at hL
          rw [hs2.out, hv9.out]
          have hE3 := hE.next hL hK
          clear hL hK
          go_wp2_with (refine wpList_store_box 52 (.tmp 11) (.tmp 93) b #[.int .i64 3, .int .i64 0, .int .i64 v9, .int .i64 0, .int .i64 0, .slice none 0 0, .int .i64 0, .int .i64 0, .int .i64 0, .slice none 0 0, .string ⟨#[]⟩, .int .i64 0, .int .i64 0, .int .i64 0, .int .u32 0, .int .i64 0, .int .i64 0, .int .i64 0, .int .i64 0] 52 #[.int .i64 0, .int .i64 0, .int .i64 0, .int .i64 0, .int .i64 0, .slice none 0 0, .int .i64 0, .int .i64 0, .int .i64 0, .slice none 0 0, .string ⟨#[]⟩, .int .i64 0, .int .i64 0, .int .i64 0, .int .u32 0, .int .i64 0, .int .i64 0, .int .i64 0, .int .i64 0] rfl rfl rfl rfl hE3.box (by kernel_rfl) rfl rfl ?_)
          intro w4 hw1 hw2
          have hE4 := Lib.hid (hE3.store hw1 hw2)
          clear hw1 hw2 hE3
          go_wp2
          go_meet
          rw [Hev.out, if_neg (show ¬ (10:Int) < 4 by omega), if_neg (show ¬ (10:Int) < 9 by omega), if_neg (show ¬ (10:Int) < 10 by omega), if_pos (show (10:Int) < 11 by omega)]
          exact hE4.out.at
        have e3 : (o == 10) = false := by rw [beq_eq_false_iff_ne]; exact c3
        obtain ⟨u, hu, hu4⟩ : ∃ k : Nat, Hid (lotVal s2 4 = k) ∧ k < 4 := ⟨(lotVal s2 4).toNat, by
          show lotVal s2 4 = _
          have := lotVal_nonneg s2 4; omega, by
          have := lotVal_lt s2 4 (by omega); have := lotVal_nonneg s2 4; omega⟩
        obtain ⟨x, hx⟩ : ∃ v, Hid (lotVal s3 N = v) := ⟨_, rfl⟩
        obtain ⟨x9, hx9⟩ : ∃ v, Hid (lotVal s3 9 = v) := ⟨_, rfl⟩
        obtain ⟨y, hy⟩ : ∃ v, Hid (lotVal s4 4 = v) := ⟨_, rfl⟩
        have hro2 : Hid (ro = if (u:Int) = 0 then (evOf 5 x 0 0, s3) else if (u:Int) = 1 then (evOf 6 x 0 0, s3) else if (u:Int) = 2 then (evOf 10 x 0 y, s4) else (evOf 4 0 x9 0, s3)) := by
          show ro = _
          rw [← hro.out]
          unfold otherEv
          simp only [hs2.out, hs3.out, hs4.out, hu.out, hx.out, hx9.out, hy.out]
        go_wp2_with fail
        refine (RNext_any g s1 4 w2 hE.lot ok1).mono ?_
        rintro e w3 ⟨rfl, hL, hK, -⟩
        rw [hs2.out] at hL
        rw [hs2.out, hu.out]
        have hE3 := hE.next hL hK
        clear hL hK hE
        by_cases d0 : u = 0
        · subst d0
          go_wp2_with fail
          refine (RNext_any g s2 N w3 hE3.lot ok2).mono ?_
          rintro e w4 ⟨rfl, hL, hK, -⟩
          rw [hs3.out] at hL
          rw [hs3.out, hx.out]
          have hE4 := hE3.next hL hK
          clear hL hK
          go_wp2_with (refine wpList_store_box 52 (.tmp 11) (.tmp 37) b #[.int .i64 5, .int .i64 x, .int .i64 0, .int .i64 0, .int .i64 0, .slice none 0 0, .int .i64 0, .int .i64 0, .int .i64 0, .slice none 0 0, .string ⟨#[]⟩, .int .i64 0, .int .i64 0, .int .i64 0, .int .u32 0, .int .i64 0, .int .i64 0, .int .i64 0, .int .i64 0] 52 #[.int .i64 0, .int .i64 0, .int .i64 0, .int .i64 0, .int .i64 0, .slice none 0 0, .int .i64 0, .int .i64 0, .int .i64 0, .slice none 0 0, .string ⟨#[]⟩, .int .i64 0, .int .i64 0, .int .i64 0, .int .u32 0, .int .i64 0, .int .i64 0, .int .i64 0, .int .i64 0] rfl rfl rfl rfl hE4.box (by kernel_rfl) rfl rfl ?_)
          intro w5 hw1 hw2
          have hE5 := Lib.hid (hE4.store hw1 hw2)
          clear hw1 hw2 hE4
          go_wp2
          go_meet
          rw [Hev.out, if_neg (show ¬ o < 4 by omega), if_neg (show ¬ o < 9 by omega), if_neg (show ¬ o < 10 by omega), if_neg (show ¬ o < 11 by omega), hro2.out, if_pos (show ((0:Nat):Int) = 0 by omega)]
          exact hE5.out.at
        by_cases d1 : u = 1
        · subst d1
          go_wp2_with fail
          refine (RNext_any g s2 N w3 hE3.lot ok2).mono ?_
          rintro e w4 ⟨rfl, hL, hK, -⟩
          rw [hs3.out] at hL
          rw [hs3.out, hx.out]
          have hE4 := hE3.next hL hK
          clear hL hK
          go_wp2_with (refine wpList_store_box 52 (.tmp 11) (.tmp 43) b #[.int .i64 6, .int .i64 x, .int .i64 0, .int .i64 0, .int .i64 0, .slice none 0 0, .int .i64 0, .int .i64 0, .int .i64 0, .slice none 0 0, .string ⟨#[]⟩, .int .i64 0, .int .i64 0, .int .i64 0, .int .u32 0, .int .i64 0, .int .i64 0, .int .i64 0, .int .i64 0] 52 #[.int .i64 0, .int .i64 0, .int .i64 0, .int .i64 0, .int .i64 0, .slice none 0 0, .int .i64 0, .int .i64 0, .int .i64 0, .slice none 0 0, .string ⟨#[]⟩, .int .i64 0, .int .i64 0, .int .i64 0, .int .u32 0, .int .i64 0, .int .i64 0, .int .i64 0, .int .i64 0] rfl rfl rfl rfl hE4.box (by kernel_rfl) rfl rfl ?_)
          intro w5 hw1 hw2
          have hE5 := Lib.hid (hE4.store hw1 hw2)
          clear hw1 hw2 hE4
          go_wp2
          go_meet
          rw [Hev.out, if_neg (show ¬ o < 4 by omega), if_neg (show ¬ o < 9 by omega), if_neg (show ¬ o < 10 by omega), if_neg (show ¬ o < 11 by omega), hro2.out, if_neg (show ¬ ((1:Nat):Int) = 0 by omega), if_pos (show ((1:Nat):Int) = 1 by omega)]
          exact hE5.out.at
        by_cases d2 : u = 2
        · subst d2
          go_wp2_with fail
          refine (RNext_any g s2 N w3 hE3.lot ok2).mono ?_
          rintro e w4 ⟨rfl, hL, hK, -⟩
          rw [hs3.out] at hL
          rw [hs3.out, hx.out]
          have hE4 := hE3.next hL hK
          clear hL hK
          go_wp2_with (refine wpList_store_box 52 (.tmp 11) (.tmp 49) b #[.int .i64 10, .int .i64 x, .int .i64 0, .int .i64 0, .int .i64 0, .slice none 0 0, .int .i64 0, .int .i64 0, .int .i64 0, .slice none 0 0, .string ⟨#[]⟩, .int .i64 0, .int .i64 0, .int .i64 0, .int .u32 0, .int .i64 0, .int .i64 0, .int .i64 0, .int .i64 0] 52 #[.int .i64 0, .int .i64 0, .int .i64 0, .int .i64 0, .int .i64 0, .slice none 0 0, .int .i64 0, .int .i64 0, .int .i64 0, .slice none 0 0, .string ⟨#[]⟩, .int .i64 0, .int .i64 0, .int .i64 0, .int .u32 0, .int .i64 0, .int .i64 0, .int .i64 0, .int .i64 0] rfl rfl rfl rfl hE4.box (by kernel_rfl) rfl rfl ?_)
          intro w5 hw1 hw2
          have hE5 := (hE4.store hw1 hw2)
          clear hw1 hw2 hE4
          go_wp2_with fail
          refine (RNext_any g s3 4 w5 hE5.lot ok3).mono ?_
          rintro e w6 ⟨rfl, hL, hK, -⟩
          rw [hs4.out] at hL
          rw [hs4.out, hy.out]
          have hE6 := hE5.next hL hK
          clear hL hK hE5
          have pc4 : w6.cell? ⟨b, 4, none⟩ = some (.int .i64 0) := cell_of_row w6 b 4 _ _ _ hE6.box
          have pf4 : w6.frozen? ⟨b, 4, none⟩ = false := frozen_of_row w6 b 4 _ _ hE6.box
          have hb7 := heap_setCell_same w6 b 4 _ _ (.int .i64 y) hE6.box
          have hk7 : Keeps (fun k => k = b) w6 (w6.setCell ⟨b, 4, none⟩ (.int .i64 y)) := (Keeps.refl (fun k => k = b) w6).setCell (p := ⟨b, 4, none⟩) (fun _ => rfl) _
          have hb7 : (w6.setCell ⟨b, 4, none⟩ (.int .i64 y)).heap[b]? = some (.cells #[.int .i64 10, .int .i64 x, .int .i64 0, .int .i64 0, .int .i64 y, .slice none 0 0, .int .i64 0, .int .i64 0, .int .i64 0, .slice none 0 0, .string ⟨#[]⟩, .int .i64 0, .int .i64 0, .int .i64 0, .int .u32 0, .int .i64 0, .int .i64 0, .int .i64 0, .int .i64 0] 52 (0, 0)) := hb7.trans rfl
          have hE7 := Lib.hid (hE6.store hb7 hk7)
          clear hE6 hb7 hk7
          go_wp2
          go_meet
          rw [Hev.out, if_neg (show ¬ o < 4 by omega), if_neg (show ¬ o < 9 by omega), if_neg (show ¬ o < 10 by omega), if_neg (show ¬ o < 11 by omega), hro2.out, if_neg (show ¬ ((2:Nat):Int) = 0 by omega), if_neg (show ¬ ((2:Nat):Int) = 1 by omega), if_pos (show ((2:Nat):Int) = 2 by omega)]
          exact hE7.out.at
        · obtain rfl : u = 3 := by omega
          go_wp2_with fail
          refine (RNext_any g s2 9 w3 hE3.lot ok2).mono ?_
          rintro e w4 ⟨rfl, hL, hK, -⟩
          rw [hs3.out] at hL
          rw [hs3.out, hx9.out]
          have hE4 := hE3.next hL hK
          clear hL hK
          go_wp2_with (refine wpList_store_box 52 (.tmp 11) (.tmp 31) b #[.int .i64 4, .int .i64 0, .int .i64 x9, .int .i64 0, .int .i64 0, .slice none 0 0, .int .i64 0, .int .i64 0, .int .i64 0, .slice none 0 0, .string ⟨#[]⟩, .int .i64 0, .int .i64 0, .int .i64 0, .int .u32 0, .int .i64 0, .int .i64 0, .int .i64 0, .int .i64 0] 52 #[.int .i64 0, .int .i64 0, .int .i64 0, .int .i64 0, .int .i64 0, .slice none 0 0, .int .i64 0, .int .i64 0, .int .i64 0, .slice none 0 0, .string ⟨#[]⟩, .int .i64 0, .int .i64 0, .int .i64 0, .int .u32 0, .int .i64 0, .int .i64 0, .int .i64 0, .int .i64 0] rfl rfl rfl rfl hE4.box (by kernel_rfl) rfl rfl ?_)
          intro w5 hw1 hw2
          have hE5 := Lib.hid (hE4.store hw1 hw2)
          clear hw1 hw2 hE4
          go_wp2
          go_meet
          rw [Hev.out, if_neg (show ¬ o < 4 by omega), if_neg (show ¬ o < 9 by omega), if_neg (show ¬ o < 10 by omega), if_neg (show ¬ o < 11 by omega), hro2.out, if_neg (show ¬ ((3:Nat):Int) = 0 by omega), if_neg (show ¬ ((3:Nat):Int) = 1 by omega), if_neg (show ¬ ((3:Nat):Int) = 2 by omega)]
          exact hE5.out.at
      case rest =>
        obtain ⟨A5, c5, A9, c9, ha, hE2⟩ := hcut
        obtain ⟨x, s'⟩ := r
        dsimp only at ha hE2
        have hL2 := hE2.lot
        have hK2 := hE2.keep
        have hs2 := hK2.size
        have hO2 := hO.keeps hK2 (fun j hj hj2 => by have : j = g := hj2; have : g < j := hj; omega)
        have hr3 : RS kEvent (wc.alloc (.cells #[.int .i64 x.Kind, .int .i64 x.Node, .int .i64 x.Message, .int .i64 x.Keep, .int .i64 x.What, .slice A5 x.Fault.length c5, .int .i64 x.Cmd.Kind, .int .i64 x.Cmd.Pid, .int .i64 x.Cmd.Seq, .slice A9 x.Cmd.Records.length c9, .string x.Cmd.Group, .int .i64 x.Cmd.Offset, .int .i64 x.Cmd.Max, .int .i64 x.Cmd.Now, .int .u32 x.Cmd.Sum, .int .i64 x.Cmd.Conf.Segment, .int .i64 x.Cmd.Conf.Keep, .int .i64 x.Cmd.Conf.Age, .int .i64 x.Cmd.Conf.Grace] 52)) (fun j => New wr wc j ∨ j = wc.heap.size) (some ⟨wc.heap.size, 0, none⟩) 1 [x] :=
          RS.lit wc (xs := [x]) (Elems.single (K := kEvent) ha.rep)
        have hO3 := hO2.below ((Below.refl wc.heap.size wc).alloc (Nat.le_refl _) (.cells #[.int .i64 x.Kind, .int .i64 x.Node, .int .i64 x.Message, .int .i64 x.Keep, .int .i64 x.What, .slice A5 x.Fault.length c5, .int .i64 x.Cmd.Kind, .int .i64 x.Cmd.Pid, .int .i64 x.Cmd.Seq, .slice A9 x.Cmd.Records.length c9, .string x.Cmd.Group, .int .i64 x.Cmd.Offset, .int .i64 x.Cmd.Max, .int .i64 x.Cmd.Now, .int .u32 x.Cmd.Sum, .int .i64 x.Cmd.Conf.Segment, .int .i64 x.Cmd.Conf.Keep, .int .i64 x.Cmd.Conf.Age, .int .i64 x.Cmd.Conf.Grace] 52))
        have hL3 := hL2.below ((Below.refl wc.heap.size wc).alloc (Nat.le_refl _) (.cells #[.int .i64 x.Kind, .int .i64 x.Node, .int .i64 x.Message, .int .i64 x.Keep, .int .i64 x.What, .slice A5 x.Fault.length c5, .int .i64 x.Cmd.Kind, .int .i64 x.Cmd.Pid, .int .i64 x.Cmd.Seq, .slice A9 x.Cmd.Records.length c9, .string x.Cmd.Group, .int .i64 x.Cmd.Offset, .int .i64 x.Cmd.Max, .int .i64 x.Cmd.Now, .int .u32 x.Cmd.Sum, .int .i64 x.Cmd.Conf.Segment, .int .i64 x.Cmd.Conf.Keep, .int .i64 x.Cmd.Conf.Age, .int .i64 x.Cmd.Conf.Grace] 52))
        have hgr := hL.lt
        have hW2 : Below g w wc := ⟨hK2.os.trans hW.os, hK2.tape.trans hW.tape, hK2.output.trans hW.output, Nat.le_trans hW.size hK2.size, fun j hj => (hK2.block j (by omega) (fun e => by have : j = g := e; omega)).trans (hW.block j hj)⟩
        have hW3 : Below g w (wc.alloc (.cells #[.int .i64 x.Kind, .int .i64 x.Node, .int .i64 x.Message, .int .i64 x.Keep, .int .i64 x.What, .slice A5 x.Fault.length c5, .int .i64 x.Cmd.Kind, .int .i64 x.Cmd.Pid, .int .i64 x.Cmd.Seq, .slice A9 x.Cmd.Records.length c9, .string x.Cmd.Group, .int .i64 x.Cmd.Offset, .int .i64 x.Cmd.Max, .int .i64 x.Cmd.Now, .int .u32 x.Cmd.Sum, .int .i64 x.Cmd.Conf.Segment, .int .i64 x.Cmd.Conf.Keep, .int .i64 x.Cmd.Conf.Age, .int .i64 x.Cmd.Conf.Grace] 52)) := hW2.alloc (by omega) _
        have hs3' : (wc.alloc (.cells #[.int .i64 x.Kind, .int .i64 x.Node, .int .i64 x.Message, .int .i64 x.Keep, .int .i64 x.What, .slice A5 x.Fault.length c5, .int .i64 x.Cmd.Kind, .int .i64 x.Cmd.Pid, .int .i64 x.Cmd.Seq, .slice A9 x.Cmd.Records.length c9, .string x.Cmd.Group, .int .i64 x.Cmd.Offset, .int .i64 x.Cmd.Max, .int .i64 x.Cmd.Now, .int .u32 x.Cmd.Sum, .int .i64 x.Cmd.Conf.Segment, .int .i64 x.Cmd.Conf.Keep, .int .i64 x.Cmd.Conf.Age, .int .i64 x.Cmd.Conf.Grace] 52)).heap.size = wc.heap.size + 1 := by simp
        go_wp2_with (first
          | (refine wpList_load_row rfl 52 (.tmp 11) rfl b rfl 52 #[.int .i64 x.Kind, .int .i64 x.Node, .int .i64 x.Message, .int .i64 x.Keep, .int .i64 x.What, .slice A5 x.Fault.length c5, .int .i64 x.Cmd.Kind, .int .i64 x.Cmd.Pid, .int .i64 x.Cmd.Seq, .slice A9 x.Cmd.Records.length c9, .string x.Cmd.Group, .int .i64 x.Cmd.Offset, .int .i64 x.Cmd.Max, .int .i64 x.Cmd.Now, .int .u32 x.Cmd.Sum, .int .i64 x.Cmd.Conf.Segment, .int .i64 x.Cmd.Conf.Keep, .int .i64 x.Cmd.Conf.Age, .int .i64 x.Cmd.Conf.Grace] (0, 0) _ hE2.box Tryd.underlying52 rfl (by kernel_rfl) ?_)
          | (at_builtin
             refine wpList_append_S rfl tEvent (.tmp 94) (.tmp 96) rfl (K := kEvent) rfl rfl hO3 hr3 ?_ ?_ ?_ ?_))
        · intro j hj hj2
          have h1 := (hO.lt j hj).2
          rcases hj2 with hj2 | hj2
          · have := hj2.1; omega
          · omega
        · rw [Hlen.out]; omega
        · rw [Hlen.out]; omega
        intro v4 w4 hA
        obtain ⟨A7, n7, c7, rfl⟩ := hA.own.shape
        have hs4 := hA.grown.size
        have hL4 : LotAt 79 w4 g s' := (hA.grown.block g (by omega) (fun e => by have : g < g := (hO.lt g e.symm).1; omega)).trans hL3
        have hW4 : Below g w w4 := hW3.grown hA.grown (by omega) (fun j hj => by have : g < j := (hO.lt j hj).1; omega)
        have hO4 : OwnS kEvent 52 w4 (fun j => g < j) (.slice A7 n7 c7) (genUpto s0 N (k + 1)).1 := by
          rw [Hnext.out, hr.out]
          refine hA.own.mono fun j hj => ?_
          rcases hj with hj | hj | hj
          · exact hj
          · rcases hj with hj | hj
            · have := hj.1; show g < j; omega
            · show g < j; omega
          · have := hj.1; show g < j; omega
        have hL5 : LotAt 79 w4 g (genUpto s0 N (k + 1)).2 := by rw [Hnext.out, hr.out]; exact hL4
        clear hA hO3 hL3 hW3 hr3 hL4
        go_wp2
        go_roundw
        case rel =>
          exact ⟨k + 1, by go_num, by omega, hO4, hL5, hW4⟩
        case measure => simp [intOf]; omega
    · obtain rfl : k = C := by omega
      go_wp2
      go_ret
      rw [Hq.out]
      refine ⟨_, rfl, hO.bound.mono fun j hj => ?_, fun j hj => ?_, by rw [Hg.out]; exact hW⟩
      · have h1 : g < j := hj.1
        have h2 := Hg.out
        exact ⟨by omega, hj.2⟩
      · have h1 : g < j := (hO.lt j hj).1
        have h2 := Hg.out
        omega
end Go.Proofs.YtngmipppgnlkdaaDoor
