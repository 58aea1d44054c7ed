/- TierBack, walked. -/
import Derived.Test.YtfjndjbpgcggkaaDoorTG
set_option linter.unusedVariables false
set_option linter.unusedSimpArgs false
namespace Go.Proofs.YtfjndjbpgcggkaaDoor
open Go.RowKit
attribute [local go_sem] Same.cell Same.frozen

def LawPost (W : World) (e : Ending) (W' : World) : Prop := e = .returned (.bool true) ∧ Below W.heap.size W W'

set_option maxHeartbeats 16000000 in
set_option maxRecDepth 100000 in
theorem TBack_law (A : Option Addr) (n c : Nat) (l : List Record) (ba ge off mx su : Int) (W : World) (F : Foot) (hr : RS kRecord W F A n l) (hn : n ≤ 140737488355328) (hT : TabsBelow W.heap.size W) (hP : PowBelow W.heap.size W) :
    Calls Tryd.prog 10 #[.slice A n c, .int .i64 ba, .int .i64 ge, .int .i64 off, .int .i64 mx, .int .u32 su] W (LawPost W) := by
  have HA := Lib.hid (tAlive_any W hT hP)
  have HBig := Lib.hid (fun w1 (hb : Below W.heap.size W w1) => Big8_any A n c l w1 F (hr.below hb) hn)
  by_cases hg : ba < 0 ∨ 1125899906842624 < ba ∨ ge < 0 ∨ 1125899906842624 < ge
  · clear hr hT hP
    by_cases g1 : ba < 0
    · go_enter Tryd.func10, Tryd.ntmps10
      go_wp2_with fail
      refine HA.out.mono ?_
      rintro e w1 ⟨rfl, hb1⟩
      have H1 := Lib.hid hb1
      clear hb1
      go_wp2_with fail
      refine (HBig.out w1 H1.out).mono ?_
      rintro e w2 ⟨b, rfl, hbn, hw⟩
      rw [hw]
      clear hw w2 hbn
      cases b <;> (go_wp2; go_ret; exact ⟨rfl, H1.out⟩)
    by_cases g2 : 1125899906842624 < ba
    · go_enter Tryd.func10, Tryd.ntmps10
      go_wp2_with fail
      refine HA.out.mono ?_
      rintro e w1 ⟨rfl, hb1⟩
      have H1 := Lib.hid hb1
      clear hb1
      go_wp2_with fail
      refine (HBig.out w1 H1.out).mono ?_
      rintro e w2 ⟨b, rfl, hbn, hw⟩
      rw [hw]
      clear hw w2 hbn
      cases b <;> (go_wp2; go_ret; exact ⟨rfl, H1.out⟩)
    by_cases g3 : ge < 0
    · go_enter Tryd.func10, Tryd.ntmps10
      go_wp2_with fail
      refine HA.out.mono ?_
      rintro e w1 ⟨rfl, hb1⟩
      have H1 := Lib.hid hb1
      clear hb1
      go_wp2_with fail
      refine (HBig.out w1 H1.out).mono ?_
      rintro e w2 ⟨b, rfl, hbn, hw⟩
      rw [hw]
      clear hw w2 hbn
      cases b <;> (go_wp2; go_ret; exact ⟨rfl, H1.out⟩)
    have g4 : 1125899906842624 < ge := by omega
    go_enter Tryd.func10, Tryd.ntmps10
    go_wp2_with fail
    refine HA.out.mono ?_
    rintro e w1 ⟨rfl, hb1⟩
    have H1 := Lib.hid hb1
    clear hb1
    go_wp2_with fail
    refine (HBig.out w1 H1.out).mono ?_
    rintro e w2 ⟨b, rfl, hbn, hw⟩
    rw [hw]
    clear hw w2 hbn
    cases b <;> (go_wp2; go_ret; exact ⟨rfl, H1.out⟩)
  obtain ⟨ba, rfl⟩ := Int.eq_ofNat_of_zero_le (a := ba) (by omega)
  obtain ⟨ge, rfl⟩ := Int.eq_ofNat_of_zero_le (a := ge) (by omega)
  have gb1 : ba ≤ 1125899906842624 := by omega
  have gb2 : ge ≤ 1125899906842624 := by omega
  clear hg
  have hE : Env W.heap.size W := ⟨hT, Nat.le_refl _⟩
  have HR := Lib.hid (And.intro hr (And.intro hE hP))
  have HL := Lib.hid hr.length
  obtain ⟨B, hB⟩ : ∃ B, Hid (W.heap.size = B) := ⟨_, rfl⟩
  clear hr hT hP hE
  go_enter Tryd.func10, Tryd.ntmps10
  go_wp2_with fail
  refine HA.out.mono ?_
  rintro e w1 ⟨rfl, hb1⟩
  have H1 := Lib.hid hb1
  clear hb1 HA
  go_wp2_with fail
  refine (HBig.out w1 H1.out).mono ?_
  rintro e w2 ⟨b, rfl, hbn, hw⟩
  rw [hw]
  clear hw w2
  cases b with
  | true =>
    go_wp2
    go_ret
    exact ⟨rfl, H1.out⟩
  | false =>
  have hn60 := hbn rfl
  clear hbn HBig hn
  go_wp2_with fail
  go_loopw [15, 16] (fun v q wr => ∃ (i m : Nat) (A1 : Option Addr) (c1 : Nat), v = .slice A1 m c1 ∧ q = .int .i64 i ∧ i ≤ n ∧ m ≤ i ∧ Hid (RowR W wr (.slice A1 m c1) (goods l i) m ∧ True)) (fun _ q _ => n - (intOf q).toNat)
  case atStart => exact ⟨0, 0, none, 0, rfl, rfl, Nat.zero_le _, Nat.le_refl _, ⟨OwnS.nil, H1.out, rfl⟩, trivial⟩
  case round =>
    obtain ⟨i, m, A1, c1, rfl, rfl, hi, hmi, hO⟩ := hrel
    by_cases hlt : i < n
    · obtain ⟨r, hx0⟩ : ∃ r, l[i]? = some r := ⟨_, List.getElem?_eq_getElem (by rw [HL.out]; exact hlt)⟩
      obtain ⟨ad, hA0, hFa, k0, k1, k2, k3, k4⟩ := at_Record (HR.out.1.below hO.out.1.below) hx0
      subst hA0
      have hst := Lib.hid (goods_step l i r hx0)
      clear hx0
      have HB1 := Lib.hid (Lib.hid hO.out.1)
      have hal : Below wr.heap.size wr (wr.alloc (.cells #[.int .i64 (2 * (i : Int)), .int .i64 r.Time, .string r.Key, .string r.Value, .bool r.Dead] 79)) := (Below.refl _ _).alloc (Nat.le_refl _) _
      have hxb := Lib.hid (heap_alloc_new wr (.cells #[.int .i64 (2 * (i : Int)), .int .i64 r.Time, .string r.Key, .string r.Value, .bool r.Dead] 79))
      have hqb : wr.heap.size < (wr.alloc (.cells #[.int .i64 (2 * (i : Int)), .int .i64 r.Time, .string r.Key, .string r.Value, .bool r.Dead] 79)).heap.size := by simp
      have hO1 := hO.out.1.moved hal
      obtain ⟨gs, hgs⟩ : ∃ gs, Hid (goods l i = gs) := ⟨_, rfl⟩
      rw [hgs.out] at hst hO1
      clear hO HB1
      go_wp2_with fail
      generalize wr.alloc (.cells #[.int .i64 (2 * (i : Int)), .int .i64 r.Time, .string r.Key, .string r.Value, .bool r.Dead] 79) = wb at hxb hqb hO1 ⊢
      refine (rRight_any (at2 r i) wb).mono ?_
      rintro e w2 ⟨rb, rfl, hrb, hbl⟩
      have hO2 := hO1.moved hbl
      have hx2 := (hbl.block _ hqb).trans hxb.out
      obtain ⟨a0, a1, a2, a3, a4⟩ := box_Record (x := at2 r i) hx2
      have a0 : w2.cell? ⟨wr.heap.size, 0, none⟩ = some (.int .i64 (2 * (i : Int))) := a0
      have a1 : w2.cell? ⟨wr.heap.size, 1, none⟩ = some (.int .i64 r.Time) := a1
      have a2 : w2.cell? ⟨wr.heap.size, 2, none⟩ = some (.string r.Key) := a2
      have a3 : w2.cell? ⟨wr.heap.size, 3, none⟩ = some (.string r.Value) := a3
      have a4 : w2.cell? ⟨wr.heap.size, 4, none⟩ = some (.bool r.Dead) := a4
      have Hrb := Lib.hid hrb
      clear hbl hrb hO1 hx2 hxb hqb hal
      cases rb with
      | true =>
        rw [if_pos (Hrb.out.1 rfl)] at hst
        have hr2 := lit1R w2 (at2 r i)
        have hbl : Below w2.heap.size w2 (w2.alloc (.cells #[.int .i64 (2 * (i : Int)), .int .i64 r.Time, .string r.Key, .string r.Value, .bool r.Dead] 79)) := (Below.refl _ _).alloc (Nat.le_refl _) _
        have hO3 := hO2.own.below hbl
        go_wp2_with (first
          | (at_builtin
             refine wpList_append_S rfl tRecords (.tmp 66) (.tmp 68) rfl (K := kRecord) rfl rfl hO3 hr2 ?_ ?_ ?_ ?_))
        · intro j hj hj2
          have h1 := (hO2.own.lt j hj).1.2
          have h2 : j = w2.heap.size := hj2
          omega
        · have := hO2.len; omega
        · have := hO2.len; omega
        intro v4 w4 hA
        have HO4 := Lib.hid (hO2.app hbl hA)
        obtain ⟨A4, m4, c4, rfl⟩ := HO4.out.own.shape
        have hm4 : m4 = m + 1 := by
          obtain ⟨A', c', e', _⟩ := HO4.out.own.slice
          injection e' with _ e' _
          rw [e', HO4.out.len]
        subst hm4
        clear hA hr2 hbl hO3 hO2
        go_wp2
        go_roundw
        case rel =>
          refine ⟨i + 1, m + 1, A4, c4, rfl, by go_num, by omega, by omega, ?_, trivial⟩
          rw [hst.out]
          exact HO4.out
        case measure => simp [intOf]; omega
      | false =>
        rw [if_neg (fun h => by have := Hrb.out.2 h; cases this), List.append_nil] at hst
        have HO2 := Lib.hid hO2
        clear hO2
        go_wp2
        go_roundw
        case rel =>
          refine ⟨i + 1, m, A1, c1, rfl, by go_num, by omega, by omega, ?_, trivial⟩
          rw [hst.out]
          exact HO2.out
        case measure => simp [intOf]; omega
    · obtain rfl : i = n := by omega
      obtain ⟨gok, gR, gl⟩ := goods_facts l i
      have gok2 : ∀ r ∈ goods l i, r.Okay := fun r hr => (gok r hr).1
      have hbl := segBytes_len (goods l i)
      obtain ⟨gs, hgs⟩ : ∃ gs, Hid (goods l i = gs) := ⟨_, rfl⟩
      rw [hgs.out] at hO gok2 gR gl hbl
      obtain ⟨A', c', e', hc1, -, hrr⟩ := hO.out.1.own.reads
      injection e' with e1 e2 e3
      subst e1 e3
      rw [← e2] at hrr hbl gl
      have hbw := hO.out.1.below
      have hsw := hbw.size
      have hE := HR.out.2.1.step hbw
      have hP := HR.out.2.2.on hbw
      have HH := Lib.hid (And.intro hrr (And.intro hbw (And.intro hE (And.intro hP (And.intro gok2 gR)))))
      have He2 := Lib.hid e2
      clear hrr hbw hE hP gok gok2 gR e2 hO HL H1 hi hmi
      go_wp2_with fail
      refine (sNew W.heap.size 1048576 wr HH.out.2.2.1 (by omega) (by omega)).mono ?_
      rintro e w3 ⟨sb, rfl, h3, hb3⟩
      obtain ⟨bs, hbs⟩ : ∃ bs, Hid (segBytes gs = bs) := ⟨_, rfl⟩
      obtain ⟨k, hk⟩ : ∃ k, Hid (bs.length = k) := ⟨_, rfl⟩
      obtain ⟨nm, hnm⟩ : ∃ nm, Hid (objName ba ge = nm) := ⟨_, rfl⟩
      obtain ⟨cs, hcs⟩ : ∃ cs, Hid (crcSum bs = cs) := ⟨_, rfl⟩
      obtain ⟨rs, hrs⟩ : ∃ rs, Hid (recFrom gs off mx = rs) := ⟨_, rfl⟩
      obtain ⟨q, hq⟩ : ∃ q, Hid (rs.length = q) := ⟨_, rfl⟩
      have hql : q ≤ 60 := by
        rw [← hq.out, ← hrs.out]
        unfold recFrom
        have h1 : ((gs.filter fun r => decide (off ≤ r.Offset)).take mx.toNat).length ≤ gs.length := by
          rw [List.length_take]
          exact Nat.le_trans (Nat.min_le_right _ _) (List.length_filter_le _ _)
        rw [← He2.out] at h1
        omega
      rw [hbs.out, hk.out] at hbl
      have hs3 := hb3.size
      have hr3 := HH.out.1.below hb3
      have hap3 : Apart (New W wr) (New wr w3) := fun j h1 h2 => by have := h1.2; have := h2.1; omega
      have hP3 := HH.out.2.2.2.1.on (hb3.mono hsw)
      have HPut := tPut_any W.heap.size sb A1 m c1 gs ba ge 0 w3 _ _ _ h3 hP3 hr3 hap3 (by omega) (by omega) (by omega) (by rw [hbs.out, hk.out]; omega)
      rw [hbs.out, hnm.out] at HPut
      have HPut2 := Lib.hid HPut
      have H3 := Lib.hid (And.intro h3 (And.intro hr3 (And.intro hap3 (And.intro hP3 (HH.out.2.1.trans (hb3.mono hsw))))))
      generalize New wr w3 = F3 at HPut2 H3
      clear HPut h3 hr3 hap3 hP3 hb3
      go_wp2_with fail
      refine HPut2.out.mono ?_
      rintro e w4 ⟨rfl, h4, hk4⟩
      rw [hk.out, hcs.out]
      have hs4 := hk4.size
      have hr4 := H3.out.2.1.keeps hk4 H3.out.2.2.1
      have hb34 := H3.out.1.belowB hk4
      have hP4 := H3.out.2.2.2.1.on hb34
      have hb4 : Below W.heap.size W w4 := H3.out.2.2.2.2.trans hb34
      have hF4 : ∀ j, Grow F3 w3 w4 j → ¬ New W wr j := fun j hj hn => by
        rcases hj with h1 | h1
        · exact H3.out.2.2.1 j hn h1
        · have := hn.2; omega
      have HF1 := tFetch_any W.heap.size sb gs ba ge off mx w4 _ _ (by rw [hbs.out, hnm.out]; exact h4) hP4 (by rw [← He2.out]; omega) (by omega) (by omega) HH.out.2.2.2.2.1 HH.out.2.2.2.2.2
      rw [hbs.out, hnm.out, hrs.out, hcs.out] at HF1
      have HF12 := Lib.hid HF1
      have H4 := Lib.hid (And.intro h4 (And.intro hr4 (And.intro hP4 hb4)))
      have HF4 := Lib.hid hF4
      generalize Grow F3 w3 w4 = F4 at HF12 H4 HF4
      clear HF1 h4 hr4 hP4 hb4 hF4 hb34 hk4 HPut2
      go_wp2_with fail
      refine HF12.out.mono ?_
      rintro e w5 ⟨A5, c5, rfl, hr5, h5, hk5⟩
      rw [hq.out] at hr5 ⊢
      have hs5 := hk5.size
      have hg5 := H4.out.2.1.keeps hk5 (fun j h1 h2 => HF4.out j h2 h1)
      have hb45 := H4.out.1.belowB hk5
      have hP5 := H4.out.2.2.1.on hb45
      have hb5 : Below W.heap.size W w5 := H4.out.2.2.2.trans hb45
      have hA5 : Apart (New w4 w5) F4 := fun j h1 h2 => by have := H4.out.1.fin j h2; have := h1.1; omega
      have H5 := Lib.hid (And.intro hg5 (And.intro hr5 (And.intro h5 (And.intro hP5 (And.intro hb5 hA5)))))
      clear hr5 h5 hk5 hg5 hb45 hP5 hb5 hA5 HF12
      by_cases hsu : su = cs
      · subst hsu
        have HF2 := tFetch_any W.heap.size sb gs ba ge off mx w5 _ _ (by rw [hbs.out, hnm.out]; exact H5.out.2.2.1) H5.out.2.2.2.1 (by rw [← He2.out]; omega) (by omega) (by omega) HH.out.2.2.2.2.1 HH.out.2.2.2.2.2
        rw [hbs.out, hnm.out, hrs.out, hcs.out] at HF2
        have HF22 := Lib.hid HF2
        clear HF2
        go_wp2_with fail
        refine HF22.out.mono ?_
        rintro e w6 ⟨A6, c6, rfl, -, h6, hk6⟩
        rw [hq.out]
        have hs6' := hk6.size
        have hg6 := H5.out.1.keeps hk6 (fun j h1 h2 => HF4.out j h2 h1)
        have hm6 := H5.out.2.1.keeps hk6 H5.out.2.2.2.2.2
        have hb6 : Below W.heap.size W w6 := H5.out.2.2.2.2.1.trans (H5.out.2.2.1.belowB hk6)
        have hs6 := hb6.size
        have H6 := Lib.hid (And.intro hg6 (And.intro hm6 hb6))
        clear h6 hk6 hg6 hm6 hb6 HF22

        go_wp2_with fail
        refine (num22_any 0 w6).mono ?_
        rintro e w7 ⟨rfl, hw⟩
        rw [hw]
        clear hw w7
        go_wp2_with fail
        refine (rBytes_any A1 m c1 gs w6 _ H6.out.1 (by omega)).mono ?_
        rintro e w7 ⟨v, rfl, hM⟩
        obtain ⟨A7, c7, rfl, -, -, -⟩ := hM.own.reads
        rw [hbs.out, hk.out]
        have h67 := hM.below
        have hr7 := H6.out.1.below h67
        have hm7 := H6.out.2.1.below h67
        have hs7 := h67.size
        have H7 := Lib.hid (And.intro hr7 (And.intro hm7 (H6.out.2.2.trans (h67.mono hs6))))
        clear hM h67 hr7 hm7
        go_wp2_with fail
        refine (num22_any 0 w7).mono ?_
        rintro e w8 ⟨rfl, hw⟩
        rw [hw]
        clear hw w8
        go_wp2_with fail
        refine (rFrom_any A1 m c1 gs off mx w7 _ H7.out.1 (by omega)).mono ?_
        rintro e w8 ⟨A8, c8, rfl, hr8, hb8⟩
        rw [hrs.out] at hr8 ⊢
        rw [hq.out] at hr8 ⊢
        have hs8 := hb8.size
        have HS := Lib.hid (SameRecords_any A5 A8 q q c5 c8 rs rs _ _ w8 (H7.out.2.1.below hb8) hr8 (by omega) (by omega))
        have H8 := Lib.hid (H7.out.2.2.trans (hb8.mono (by omega)))
        clear hr8 hb8
        go_wp2_with fail
        refine HS.out.mono ?_
        rintro e w9 ⟨t, rfl, ht, hb9⟩
        obtain rfl : t = true := ht.2 trivial
        have H9 := Lib.hid (H8.out.trans (hb9.mono (by omega)))
        clear hb9 ht
        go_wp2_with fail
        refine (num22_any 0 w9).mono ?_
        rintro e w10 ⟨rfl, hw⟩
        rw [hw]
        clear hw w10
        go_wp2_with fail
        refine (num22_any 0 w9).mono ?_
        rintro e w10 ⟨rfl, hw⟩
        rw [hw]
        clear hw w10
        go_wp2
        go_ret
        exact ⟨rfl, H9.out⟩

      · have HF2 := tFetch_bad W.heap.size sb gs ba ge off mx su w5 _ _ (by rw [hbs.out, hnm.out]; exact H5.out.2.2.1) H5.out.2.2.2.1 (by rw [← He2.out]; omega) (by omega) (by omega) (by rw [hbs.out, hcs.out]; exact hsu)
        rw [hbs.out, hnm.out] at HF2
        have HF22 := Lib.hid HF2
        have hsn : (su == cs) = false := by rw [beq_eq_false_iff_ne]; exact hsu
        clear HF2 hsu
        go_wp2_with fail
        refine HF22.out.mono ?_
        rintro e w6 ⟨rfl, h6, hk6⟩
        have hs6' := hk6.size
        have hg6 := H5.out.1.keeps hk6 (fun j h1 h2 => HF4.out j h2 h1)
        have hm6 := H5.out.2.1.keeps hk6 H5.out.2.2.2.2.2
        have hb6 : Below W.heap.size W w6 := H5.out.2.2.2.2.1.trans (H5.out.2.2.1.belowB hk6)
        have hs6 := hb6.size
        have H6 := Lib.hid (And.intro hg6 (And.intro hm6 hb6))
        clear h6 hk6 hg6 hm6 hb6 HF22

        go_wp2_with fail
        refine (num22_any 0 w6).mono ?_
        rintro e w7 ⟨rfl, hw⟩
        rw [hw]
        clear hw w7
        go_wp2_with fail
        refine (rBytes_any A1 m c1 gs w6 _ H6.out.1 (by omega)).mono ?_
        rintro e w7 ⟨v, rfl, hM⟩
        obtain ⟨A7, c7, rfl, -, -, -⟩ := hM.own.reads
        rw [hbs.out, hk.out]
        have h67 := hM.below
        have hr7 := H6.out.1.below h67
        have hm7 := H6.out.2.1.below h67
        have hs7 := h67.size
        have H7 := Lib.hid (And.intro hr7 (And.intro hm7 (H6.out.2.2.trans (h67.mono hs6))))
        clear hM h67 hr7 hm7
        go_wp2_with fail
        refine (num22_any 0 w7).mono ?_
        rintro e w8 ⟨rfl, hw⟩
        rw [hw]
        clear hw w8
        go_wp2_with fail
        refine (rFrom_any A1 m c1 gs off mx w7 _ H7.out.1 (by omega)).mono ?_
        rintro e w8 ⟨A8, c8, rfl, hr8, hb8⟩
        rw [hrs.out] at hr8 ⊢
        rw [hq.out] at hr8 ⊢
        have hs8 := hb8.size
        have HS := Lib.hid (SameRecords_any A5 A8 q q c5 c8 rs rs _ _ w8 (H7.out.2.1.below hb8) hr8 (by omega) (by omega))
        have H8 := Lib.hid (H7.out.2.2.trans (hb8.mono (by omega)))
        clear hr8 hb8
        go_wp2_with fail
        refine HS.out.mono ?_
        rintro e w9 ⟨t, rfl, ht, hb9⟩
        obtain rfl : t = true := ht.2 trivial
        have H9 := Lib.hid (H8.out.trans (hb9.mono (by omega)))
        clear hb9 ht
        go_wp2_with fail
        refine (num22_any 5 w9).mono ?_
        rintro e w10 ⟨rfl, hw⟩
        rw [hw]
        clear hw w10
        go_wp2_with fail
        refine (num22_any 5 w9).mono ?_
        rintro e w10 ⟨rfl, hw⟩
        rw [hw]
        clear hw w10
        go_wp2_with fail
        refine (num22_any 5 w9).mono ?_
        rintro e w10 ⟨rfl, hw⟩
        rw [hw]
        clear hw w10
        go_wp2
        go_ret
        exact ⟨rfl, H9.out⟩
end Go.Proofs.YtfjndjbpgcggkaaDoor
