/- The law DiskPlays: do both tell the same; the law walked. -/
import Derived.Test.YtfjndjbpgcggkaaDoorDL5
set_option linter.unusedVariables false
set_option linter.unusedSimpArgs false
namespace Go.Proofs.YtfjndjbpgcggkaaDoor
open Go.RowKit
attribute [local go_sem] Same.cell Same.frozen

set_option maxRecDepth 100000 in
set_option maxHeartbeats 8000000 in
theorem same_any {B db rb n : Nat} {w : World} {F FR : Foot} {room : Int} {c : FObjs} {l : List RFile} (p : ByteArray) (h : Both B w F FR db rb room n c l) (hn : n ≤ 1000) (hp : p.size ≤ 35184372088832) :
    Calls Tryd.prog 39 #[.pointer (some ⟨db, 0, none⟩), .pointer (some ⟨rb, 0, none⟩), .string p] w fun e w' => e = .returned (.bool true) ∧ Below w.heap.size w w' := by
  obtain ⟨g1, g2, g3, g4⟩ := h.ag.got p
  have hlo := h.ag.loose p (by
    cases hl : look p c with
    | none => exact .inr rfl
    | some f => exact .inl (h.ko p (by rw [hl]; exact fun e => by cases e)))
  have hsum := h.ag.sum
  have hnam := h.ag.names
  have hln := h.ag.len
  have hl1 := h.ln
  have ht := h.tot
  have H := Lib.hid h
  have hrd := Lib.hid (wRead B db p w F room c h.d hp)
  have hbl : (rgot p l).1.b.length ≤ 1000000000000 := by
    rw [g2]
    have := szAt_dfound p c
    have := szAt_le (f := flen) p c
    omega
  have HR := Lib.hid (fun w2 (hb : Below w.heap.size w w2) A cc (hr : RefAt w2 FR rb room l A cc) => And.intro (rread_any rb p w2 FR room l A cc hr (by omega) hp hbl) (And.intro (rloose_any rb p w2 FR room l A cc hr (by omega) hp) (And.intro (rused_any rb w2 FR room l A cc hr (by omega) (by omega)) (rlist_any rb w2 FR room l A cc hr (by omega)))))
  have HD := Lib.hid (fun w2 (hb : Below w.heap.size w w2) => And.intro (dLoose_any db p w2 F room c (h.d.below hb).at_) (And.intro (dUsed_any db w2 F room c (h.d.below hb).at_) (wList B db w2 F room c (h.d.below hb) (by omega))))
  rw [g1, g2, hlo, hsum, hnam] at HR
  obtain ⟨e1, he1⟩ : ∃ x, Hid ((dfound p c).2 = x) := ⟨_, rfl⟩
  obtain ⟨b1, hb1⟩ : ∃ x, Hid ((dfound p c).1.1 = x) := ⟨_, rfl⟩
  obtain ⟨lo, hlo'⟩ : ∃ x, Hid (looseOf p c = x) := ⟨_, rfl⟩
  obtain ⟨us, hus⟩ : ∃ x, Hid (osum flen c = x) := ⟨_, rfl⟩
  obtain ⟨ks, hks⟩ : ∃ x, Hid (dkeys c = x) := ⟨_, rfl⟩
  have hkl : ks.length ≤ 1000000000 := by
    rw [← hks.out]
    unfold dkeys
    rw [sortB_length, List.length_map]
    omega
  rw [he1.out, hb1.out] at hrd
  rw [he1.out, hb1.out, hlo'.out, hus.out, hks.out] at HR
  rw [hlo'.out, hus.out, hks.out] at HD
  have x1 : (e1 == e1) = true := by rw [beq_iff_eq]
  have x2 : ((strOfNums b1).toList == (strOfNums b1).toList) = true := by rw [beq_iff_eq]
  have x3 : ((lo : Int) == (lo : Int)) = true := by rw [beq_iff_eq]
  have x4 : ((us : Int) == (us : Int)) = true := by rw [beq_iff_eq]
  clear g1 g2 g3 g4 hlo hsum hnam hln ht hbl h he1 hb1 hlo' hus hks
  go_enter Tryd.func39, Tryd.ntmps39
  go_wp2_with fail
  refine hrd.out.mono ?_
  rintro e w1 ⟨A1, cp1, rfl, hr1, hk1⟩
  obtain ⟨A, cc, hra⟩ := (H.out.below hk1).r
  have H1 := Lib.hid (And.intro hr1 hk1)
  clear hr1
  go_wp2_with fail
  refine (HR.out w1 hk1 A cc hra).1.mono ?_
  rintro e w2 ⟨A2, cp2, rfl, hr2, hk2⟩
  have hk02 : Below w.heap.size w w2 := hk1.trans (hk2.mono hk1.size)
  have hc1 := (H1.out.1.below hk2).str (P := Tryd.prog) 26 9 5 cp1 Tryd.underlying26 Tryd.underlying5 Tryd.underlying9
  have hc2 := hr2.str (P := Tryd.prog) 26 9 5 cp2 Tryd.underlying26 Tryd.underlying5 Tryd.underlying9
  have H2 := Lib.hid hk02
  clear hk1 hk2 hk02 hr2 hra H1
  go_wp2_with fail
  refine (num_any _ w2).mono ?_
  rintro e w2' ⟨rfl, hw⟩
  rw [← hw]
  clear hw w2'
  go_wp2_with fail
  refine (HD.out w2 H2.out).1.mono ?_
  rintro e w2' ⟨rfl, hw⟩
  rw [← hw]
  clear hw w2'
  go_wp2_with fail
  obtain ⟨A, cc, hra⟩ := (H.out.below H2.out).r
  refine (HR.out w2 H2.out A cc hra).2.1.mono ?_
  rintro e w3 ⟨rfl, hk3⟩
  have H3 := Lib.hid (H2.out.trans (hk3.mono H2.out.size))
  clear hk3 hra hc1 hc2
  go_wp2_with fail
  refine (HD.out w3 H3.out).2.1.mono ?_
  rintro e w3' ⟨rfl, hw⟩
  rw [← hw]
  clear hw w3'
  go_wp2_with fail
  obtain ⟨A, cc, hra⟩ := (H.out.below H3.out).r
  refine (HR.out w3 H3.out A cc hra).2.2.1.mono ?_
  rintro e w3' ⟨rfl, hw⟩
  rw [hw]
  clear hw w3'
  clear hra
  go_wp2_with fail
  refine (HD.out w3 H3.out).2.2.mono ?_
  rintro e w4 ⟨A4, cp4, rfl, hr4, hk4⟩
  have H4 := Lib.hid (And.intro hr4 (H3.out.trans (hk4.mono H3.out.size)))
  clear hr4 hk4
  go_wp2_with fail
  obtain ⟨A, cc, hra⟩ := (H.out.below H4.out.2).r
  refine (HR.out w4 H4.out.2 A cc hra).2.2.2.mono ?_
  rintro e w5 ⟨v, rfl, hM⟩
  obtain ⟨A5, cp5, rfl, -, -, hr5⟩ := hM.own.reads
  have H5 := Lib.hid (And.intro hr5 (And.intro (H4.out.1.below hM.below) (H4.out.2.trans (hM.below.mono H4.out.2.size))))
  clear hM hr5 hra
  go_wp2_with fail
  refine (sameStr_any A4 A5 ks.length cp4 cp5 ks _ _ w5 H5.out.2.1 H5.out.1 (by omega)).mono ?_
  rintro e w6 ⟨rfl, m, rfl⟩
  go_wp2
  go_ret
  exact ⟨rfl, below_drewN H5.out.2.2 m⟩

theorem doD_any {B db rb n : Nat} {w : World} {F FR G : Foot} {room : Int} {c : FObjs} {l : List RFile} {a : DAct} {A4 : Option Addr} {c4 : Nat} {A5 : Option Addr} {c5 : Nat} (h : Both B w F FR db rb room n c l) (hn : n ≤ 1000) (ha : a.Small) (hi : IntOk .i64 a.N) (hro : 0 ≤ room ∧ room ≤ 9223372036854775807)
    (l4 : a.B.length ≤ c4) (m4 : c4 ≤ 9223372036854775807) (r4 : RS (kInt .u8) w G A4 a.B.length a.B) (l5 : a.Keep.length ≤ c5) (m5 : c5 ≤ 9223372036854775807) (r5 : RS (kInt .i64) w G A5 a.Keep.length a.Keep) (hG : ∀ k, G k → k < B) :
    Calls Tryd.prog 38 #[.pointer (some ⟨db, 0, none⟩), .pointer (some ⟨rb, 0, none⟩), .agg #[.int .i64 a.Way, .int .i64 a.N, .string a.P, .string a.Q, .slice A4 a.B.length c4, .slice A5 a.Keep.length c5]] w (DoP B w F FR db rb room n) := by
  by_cases h0 : a.Way = 0
  · exact do_app A4 c4 A5 c5 h hn ha hro r4 hG h0
  by_cases h1 : a.Way = 1
  · exact do_sync h hn ha hi h1
  by_cases h2 : a.Way = 2
  · exact do_cut h hn ha hi h2
  by_cases h3 : a.Way = 3
  · exact do_ren h hn ha hi h3
  by_cases h4 : a.Way = 4
  · exact do_rem h hn ha hi h4
  by_cases h5 : a.Way = 5
  · exact do_crash A4 c4 A5 c5 h hn ha l5 m5 r5 hG h5
  · exact do_none A4 c4 A5 c5 h ⟨h0, h1, h2, h3, h4, h5⟩

def nOther : ByteArray := ⟨#[111, 116, 104, 101, 114]⟩
set_option maxRecDepth 100000 in
set_option maxHeartbeats 8000000 in
theorem DPlays_law (room : Int) (A : Option Addr) (cp : Nat) (xs : List DAct) (w : World) (hr : RS kDAct w (Old w) A xs.length xs) (hc : xs.length ≤ cp ∧ cp ≤ 9223372036854775807) (hl : xs.length ≤ 140737488355328) (hok : ∀ a ∈ xs, IntOk .i64 a.N) (hroom : -9223372036854775808 ≤ room ∧ room ≤ 9223372036854775807) (hT : TabsBelow w.heap.size w) :
    Calls Tryd.prog 9 #[.int .i64 room, .slice A xs.length cp] w fun e w' => e = .returned (.bool true) ∧ Below w.heap.size w w' := by
  have hE0 : Env w.heap.size w := ⟨hT, Nat.le_refl _⟩
  have HS := Lib.hid (dalive_any w hT)
  have HB := Lib.hid (Eq.refl w.heap.size)
  obtain ⟨B, hB⟩ : ∃ B, Hid (w.heap.size = B) := ⟨_, rfl⟩
  rw [hB.out] at hE0 HS ⊢
  clear hT HB
  go_enter Tryd.func9, Tryd.ntmps9
  go_wp2_with fail
  refine HS.out.mono ?_
  rintro e w1 ⟨rfl, hb1⟩
  have hr1 : RS kDAct w1 (fun k => k < B) A xs.length xs := by
    have := hr.mono (G := fun k => k < B) (fun k hk => by have : k < w.heap.size := hk; have := hB.out; omega)
    exact this.below (hb1.mono (Nat.le_of_eq hB.out))
  have HR1 := Lib.hid (And.intro hb1 hr1)
  go_wp2_with fail
  refine (bigD_any A xs.length cp xs _ w1 hr1 hl).mono ?_
  rintro e w1' ⟨rb0, rfl, hsm, hw⟩
  rw [hw]
  clear hw w1'
  clear hb1 hr1 hr
  have HSm := Lib.hid hsm
  clear hsm
  cases rb0
  rotate_left
  · go_wp2
    go_ret
    exact ⟨rfl, HR1.out.1⟩
  obtain ⟨hl60, hsm⟩ := HSm.out rfl
  have Hsm := Lib.hid hsm
  clear hsm HSm
  have hE1 := hE0.step HR1.out.1
  go_wp2_with fail
  refine (wNew B room w1 hE1 hroom.1 hroom.2).mono ?_
  rintro e w2 ⟨db, rfl, h2, hb2⟩
  have HD2 := Lib.hid (And.intro h2 hb2)
  clear h2 hb2
  go_wp2_with fail
  refine (wNew B 99 w2 HD2.out.1.env (by omega) (by omega)).mono ?_
  rintro e w3 ⟨ob, rfl, h3, hb3⟩
  have HD3 := Lib.hid (And.intro h3 hb3)
  clear h3 hb3
  go_wp2_with fail
  refine (RNew_any room w3).mono ?_
  rintro e w4 ⟨rb, rfl, h4, hb4⟩
  have hs2 := HD2.out.2.size
  have hs3 := HD3.out.2.size
  have hs4 := hb4.size
  have HBoth : Hid (Both B w4 (New w1 w2) (New w3 w4) db rb (max 0 room) 0 [] []) :=
    ⟨(HD2.out.1.below HD3.out.2).below hb4, ⟨none, 0, h4⟩, fun k h1 h2 => by have := h1.2; have := h2.1; omega, fun k hk => hk.2, fun k hk => by have := HD3.out.1.env.le; have := hk.1; omega, Agree.nil, fun s hs => absurd rfl hs, Nat.le_refl _, by simp [osum]⟩
  have HO : Hid (DW B w4 (New w2 w3) ob 99 []) := HD3.out.1.below hb4
  have hap1 : Hid (Apart (New w1 w2) (New w2 w3)) := fun k h1 h2 => by have := h1.2; have := h2.1; omega
  have hap2 : Hid (Apart (New w3 w4) (New w2 w3)) := fun k h1 h2 => by have := h1.1; have := h2.2; omega
  have Hb4 := Lib.hid (HR1.out.1.trans ((HD2.out.2.mono hE1.le).trans ((HD3.out.2.mono HD2.out.1.env.le).trans (hb4.mono HD3.out.1.env.le))))
  have Hr4 := Lib.hid (((HR1.out.2.below HD2.out.2).below HD3.out.2).below hb4)
  clear h4 hb4 hE1 hs2 hs3 hs4
  generalize New w1 w2 = F1 at HBoth hap1
  generalize New w2 w3 = FO at HO hap1 hap2
  generalize New w3 w4 = FR at HBoth hap2
  clear HD2 HD3 HR1
  go_wp2
  go_loopw [10] (fun q wq => ∃ (i : Nat) (c co : FObjs) (l : List RFile) (F1 FO FR : Foot), q = .int .i64 i ∧ i ≤ xs.length ∧ Hid (Both B wq F1 FR db rb (max 0 room) i c l) ∧ Hid (DW B wq FO ob 99 co ∧ osum flen co ≤ i) ∧ Hid (Apart F1 FO ∧ Apart FR FO) ∧ Hid (Below B w wq) ∧ Hid (RS kDAct wq (fun k => k < B) A xs.length xs)) (fun q _ => xs.length - (intOf q).toNat)
  case atStart => exact ⟨0, [], [], [], F1, FO, FR, rfl, Nat.zero_le _, HBoth, ⟨HO.out, by simp [osum]⟩, ⟨hap1.out, hap2.out⟩, Hb4, Hr4⟩
  case round =>
    clear HBoth HO hap1 hap2 Hb4 Hr4
    obtain ⟨i, c, co, l, F1, FO, FR, rfl, hi, hBo, hO, hA, hb, hrr⟩ := hrel
    by_cases hlt : i < xs.length
    · obtain ⟨a, ha⟩ : ∃ a, xs[i]? = some a := ⟨_, List.getElem?_eq_getElem hlt⟩
      have Ha := Lib.hid ha
      have hlb := hBo.out.d.env.le
      clear ha
      go_wp2_with fail
      have hr0 := lit1 .u8 5 wr 1
      obtain ⟨h2, ha⟩ := hO.out.1.lit (.cells #[.int .u8 1] 5)
      have hb2 : Below wr.heap.size wr (wr.alloc (.cells #[.int .u8 1] 5)) := (Below.refl _ _).alloc (Nat.le_refl _) _
      have HB2 := Lib.hid (hBo.out.below hb2)
      have Hb2 := Lib.hid (hb.out.trans (hb2.mono hlb))
      have Hr2 := Lib.hid (hrr.out.below hb2)
      clear hb2
      generalize wr.alloc (.cells #[.int .u8 1] 5) = w2 at h2 hr0 HB2 Hb2 Hr2 ⊢
      refine (wApp B ob nOther _ 1 1 [1] w2 FO _ _ _ h2 (by decide) hr0 ⟨by omega, by omega⟩ ha (by have := hO.out.2; omega)).mono ?_
      rintro e w3 ⟨rfl, h3, hk3⟩
      obtain ⟨eo, heo⟩ : ∃ eo, dappE nOther 1 99 co = eo := ⟨_, rfl⟩
      rw [heo]
      clear heo
      have hto := tot_dappC nOther [1] 99 co
      have HO3 : Hid (DW B w3 (Grow FO w2 w3) ob 99 (dappC nOther [1] 99 co) ∧ osum flen (dappC nOther [1] 99 co) ≤ i + 1) := ⟨h3, by have := hO.out.2; simp at hto; omega⟩
      have hB3 : Hid (Both B w3 F1 FR db rb (max 0 room) i c l) := by
        obtain ⟨AA, cc, hrx⟩ := HB2.out.r
        have hs := hk3.size
        exact ⟨HB2.out.d.keeps hk3 hA.out.1 h2.fb, ⟨AA, cc, hrx.keep hk3.size fun k hk hl => hk3.block k hl fun h => hA.out.2 k hk h⟩, HB2.out.ap, fun k hk => Nat.lt_of_lt_of_le (HB2.out.rin k hk) hs, HB2.out.rB, HB2.out.ag, HB2.out.ko, HB2.out.ln, HB2.out.tot⟩
      have hb3 : Hid (Below B w w3) := Hb2.out.trans (h2.belowB hk3)
      have hr3 : Hid (RS kDAct w3 (fun k => k < B) A xs.length xs) := Hr2.out.keep fun k hk hl => hk3.block k hl fun hF => by have := h2.fb k hF; omega
      have hA3 : Hid (Apart F1 (Grow FO w2 w3) ∧ Apart FR (Grow FO w2 w3)) := ⟨hA.out.1.grow' HB2.out.d.fin, hA.out.2.grow' HB2.out.rin⟩
      generalize dappC nOther [1] 99 co = co3 at HO3
      generalize Grow FO w2 w3 = FO3 at HO3 hA3
      clear h2 hr0 ha h3 hk3 hto HB2 Hb2 Hr2 hBo hO hA hb hrr hlb
      obtain ⟨ad, A4, c4, A5, c5, hA0, hFa, k0, k1, k2, k3, k4, k5, l4, m4, r4, l5, m5, r5⟩ := at_DAct hr3.out Ha.out
      subst hA0
      have haok := hok a (List.mem_of_getElem? Ha.out)
      have has := Hsm.out a (List.mem_of_getElem? Ha.out)
      go_wp2_with fail
      refine (doD_any hB3.out (by omega) has haok ⟨by omega, by omega⟩ l4 m4 r4 l5 m5 r5 (fun k hk => hk)).mono ?_
      rintro e w4 ⟨rfl, F1', FR', c', l', hB4, hQ1, hQR, hK4⟩
      have hs4 := hK4.size
      have HB4 := Lib.hid hB4
      have hb4 : Hid (Below B w w4) := hb3.out.trans (hK4.below_at hB3.out.d.env.le (fun k hk => hk.elim (hB3.out.d.fb k) (hB3.out.rB k)))
      have hr4 : Hid (RS kDAct w4 (fun k => k < B) (some ad) xs.length xs) := hr3.out.keep fun k hk hl => hK4.block k hl fun hF => by
        rcases hF with hF | hF
        · have := hB3.out.d.fb k hF; omega
        · have := hB3.out.rB k hF; omega
      have HO4 : Hid (DW B w4 FO3 ob 99 co3 ∧ osum flen co3 ≤ i + 1) := ⟨HO3.out.1.keeps hK4 (fun k hk h2 => by
        rcases h2 with h2 | h2
        · exact hA3.out.1 k h2 hk
        · exact hA3.out.2 k h2 hk) (fun k hk => hk.elim (hB3.out.d.fb k) (hB3.out.rB k)), HO3.out.2⟩
      have hA4 : Hid (Apart F1' FO3 ∧ Apart FR' FO3) := ⟨fun k h1 h2 => by
        rcases hQ1 k h1 with h | h
        · exact hA3.out.1 k h h2
        · have := HO3.out.1.fin k h2; omega, fun k h1 h2 => by
        rcases hQR k h1 with h | h
        · exact hA3.out.2 k h h2
        · have := HO3.out.1.fin k h2; omega⟩
      clear hB4 hQ1 hQR hK4 hB3 hb3 hr3 HO3 hA3 hs4 k0 k1 k2 k3 k4 k5 r4 r5 l4 m4 l5 m5 hFa haok
      obtain ⟨ha1, ha2, -, -⟩ := has
      have hsame := fun (p : ByteArray) (hp : p.size ≤ 100) w5 (hb5 : Below w4.heap.size w4 w5) => Lib.hid (same_any p (HB4.out.below hb5) (by omega) (by omega))
      have hs1 := hsame a.P ha1 w4 (Below.refl _ _)
      have HSm := Lib.hid hsame
      clear hsame
      obtain ⟨ad', A4, c4, A5, c5, hA0, hFa, k0, k1, k2, k3, k4, k5, l4, m4, r4, l5, m5, r5⟩ := at_DAct hr4.out Ha.out
      obtain rfl : ad = ad' := by injection hA0
      have hFb : ad.block < B := hFa
      clear hA0 k0 k1 k3 k4 k5 l4 m4 r4 l5 m5 r5 hFa
      go_wp2_with fail
      refine hs1.out.mono ?_
      rintro e w5 ⟨rfl, hb45⟩
      have hs2 := HSm.out a.Q ha2 w5 hb45
      obtain ⟨ad', A4, c4, A5, c5, hA0, hFa, k0, k1, k2, k3, k4, k5, l4, m4, r4, l5, m5, r5⟩ := at_DAct (hr4.out.below hb45) Ha.out
      obtain rfl : ad = ad' := by injection hA0
      have Hb45 := Lib.hid hb45
      clear hA0 k0 k1 k2 k4 k5 l4 m4 r4 l5 m5 r5 hFa hb45 hs1
      go_wp2_with fail
      refine hs2.out.mono ?_
      rintro e w6 ⟨rfl, hb56⟩
      have Hb46 := Lib.hid (Hb45.out.trans (hb56.mono Hb45.out.size))
      clear hb56 hs2 k3 Hb45
      go_wp2
      go_roundw
      case rel => exact ⟨i + 1, c', co3, l', F1', FO3, FR', by go_num, by omega, HB4.out.below Hb46.out, ⟨HO4.out.1.below Hb46.out, HO4.out.2⟩, hA4, hb4.out.trans (Hb46.out.mono HB4.out.d.env.le), hr4.out.below Hb46.out⟩
      case measure => simp [intOf]; omega
    · obtain rfl : i = xs.length := by omega
      go_wp2
      go_ret
      exact ⟨rfl, hb.out⟩
end Go.Proofs.YtfjndjbpgcggkaaDoor
