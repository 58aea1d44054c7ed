/- tier.Put, Fetch: into a store that is empty, and does not fail; what was put there. -/
import Derived.Test.YtfjndjbpgcggkaaDoorTS9
import Derived.Test.YtfjndjbpgcggkaaDoorTN
import Derived.Test.YtfjndjbpgcggkaaDoorTSc
set_option linter.unusedVariables false
set_option linter.unusedSimpArgs false
namespace Go.Proofs.YtfjndjbpgcggkaaDoor
open Go.RowKit
attribute [local go_sem] Same.cell Same.frozen

theorem found_put (s : ByteArray) (b : List Int) (h : validName s = true) : found s [(s, b)] = (b, 0) := by
  unfold found
  rw [if_neg (by rw [h]; decide)]
  simp [look]
theorem putC_empty (s : ByteArray) (b : List Int) (room : Int) (h : validName s = true) (hr : (b.length : Int) ≤ room) : putErr s b room [] = 0 ∧ putC s b room [] = [(s, b)] := by
  have he : putErr s b room [] = 0 := by
    unfold putErr
    rw [if_neg (by rw [h]; decide), if_neg]
    simp [szAt, look, osum]
    omega
  refine ⟨he, ?_⟩
  unfold putC
  rw [if_pos he]
  simp [oput, look]
theorem gPut (B sb : Nat) (s : ByteArray) (A : Option Addr) (n cp : Nat) (b : List Int) (w : World) (F G : Foot) (room : Int) (h : SW B w F sb room [] []) (hs : s.size ≤ 35184372088832) (hv : validName s = true)
    (hb : RS (kInt .u8) w G A n b) (hap : Apart G F) (hn : n ≤ 1000000000000) (hr : (n : Int) ≤ room) :
    Calls Tryd.prog 97 #[.pointer (some ⟨sb, 0, none⟩), .string s, .slice A n cp] w (SDone B w F sb room [] [(s, b)] (.int .i64 0)) := by
  have h1 := sPut B sb s A n cp b w F G room [] [] h hs hb hap hn (by simp [osum]; omega)
  obtain ⟨e1, e2⟩ := putC_empty s b room hv (by rw [hb.length]; exact hr)
  rw [how_nil, doC_0, toldE_0, e1, e2] at h1
  exact h1
def GGot (B : Nat) (w : World) (F : Foot) (sb : Nat) (room : Int) (s : ByteArray) (b : List Int) (en : Ending) (w' : World) : Prop :=
  ∃ (A : Option Addr) (cp : Nat), en = .returned (.tuple #[.slice A b.length cp, .int .i64 0]) ∧ b.length ≤ cp ∧ RS (kInt .u8) w' (New w w') A b.length b ∧ SW B w' F sb room [] [(s, b)] ∧ Keeps F w w'
theorem gGet (B sb : Nat) (s : ByteArray) (b : List Int) (w : World) (F : Foot) (room : Int) (h : SW B w F sb room [] [(s, b)]) (hs : s.size ≤ 35184372088832) (hv : validName s = true) :
    Calls Tryd.prog 98 #[.pointer (some ⟨sb, 0, none⟩), .string s] w (GGot B w F sb room s b) := by
  have h1 := Get_any B sb s w F room [] [(s, b)] h.st hs h.env h.fb
  have e1 : getE 0 s [(s, b)] = 0 := by unfold getE; rw [toldE_0, found_put s b hv]
  have e2 : getB 0 s [(s, b)] = b := by unfold getB; rw [e1, if_pos rfl, found_put s b hv]
  rw [how_nil, e1, e2] at h1
  refine h1.mono ?_
  rintro e w' ⟨u, rfl, ⟨A, cp, rfl, hc, _, hr⟩, h1, h2⟩
  exact ⟨A, cp, rfl, hc, hr, ⟨h1, h.env.step (h.belowB h2), h.fb, fun k hk => Nat.lt_of_lt_of_le (h.fin k hk) h2.size, h.ok⟩, h2⟩
theorem SW.widen {B sb : Nat} {w w' : World} {F F' : Foot} {room : Int} {bad bad0 : List Int} {c c0 : SObjs} (h : SW B w' F' sb room bad c) (h0 : SW B w F sb room bad0 c0) (hs : w.heap.size ≤ w'.heap.size) (hF : ∀ k, F' k → Grow F w w' k) : SW B w' (Grow F w w') sb room bad c :=
  ⟨h.st.mono hF, h.env, fun k hk => by
    rcases hk with hk | hk
    · exact h0.fb k hk
    · have := h0.env.le; omega, fun k hk => by
    rcases hk with hk | hk
    · have := h0.fin k hk; omega
    · exact hk.2, h.ok⟩

/-- What tier.Put leaves. -/
def TPut (B : Nat) (w : World) (F : Foot) (sb : Nat) (room : Int) (s : ByteArray) (b : List Int) (e : Ending) (w' : World) : Prop :=
  e = .returned (.tuple #[.int .i64 b.length, .int .u32 (crcSum b), .int .i64 0]) ∧ SW B w' (Grow F w w') sb room [] [(s, b)] ∧ Keeps F w w'

set_option maxHeartbeats 8000000 in
set_option maxRecDepth 100000 in
theorem tPut_any (B sb : Nat) (A : Option Addr) (n c : Nat) (l : List Record) (ba ge : Nat) (nx : Int) (w : World) (F G : Foot) (room : Int) (h : SW B w F sb room [] []) (hP : PowBelow B w) (hr : RS kRecord w G A n l) (hap : Apart G F) (hl : n ≤ 1000)
    (hba : ba < 10000000000000000) (hge : ge < 10000000000000000) (hroom : ((segBytes l).length : Int) ≤ room) :
    Calls Tryd.prog 44 #[.pointer (some ⟨sb, 0, none⟩), .agg #[.int .i64 ba, .int .i64 nx, .int .i64 0, .int .i64 ge, .slice A n c, .bool false, .bool false, .bool false, .int .i64 0, .int .u32 0]] w (TPut B w F sb room (objName ba ge) (segBytes l)) := by
  have hv := objName_valid ba ge hba hge
  have hbl := segBytes_len l
  rw [hr.length] at hbl
  have hsz : (objName ba ge).size ≤ 35184372088832 := by
    have h1 := dec_long 15 ba hba
    have h2 := dec_long 15 ge hge
    rw [objName_size]
    omega
  have HB := Lib.hid (fun w1 (hb1 : Below w.heap.size w w1) => segBytes_any A n c l w1 _ (hr.below hb1) (by omega))
  have HBy := Lib.hid (segBytes_bytes l)
  obtain ⟨bs, hbs⟩ : ∃ bs, Hid (segBytes l = bs) := ⟨_, rfl⟩
  obtain ⟨nm, hnm⟩ : ∃ nm, Hid (objName ba ge = nm) := ⟨_, rfl⟩
  have HN := Lib.hid (fun w1 hT hB => Name_any B ba ge (by omega) (by omega) w1 hT hB)
  rw [hbs.out] at hbl HB HBy hroom ⊢
  rw [hnm.out] at hv hsz HN ⊢
  have H := Lib.hid (And.intro h hP)
  have hbw : Below w.heap.size w (w.alloc (.cells #[.int .i64 ba, .int .i64 nx, .int .i64 0, .int .i64 ge, .slice A n c, .bool false, .bool false, .bool false, .int .i64 0, .int .u32 0] 86)) := (Below.refl _ _).alloc (Nat.le_refl _) _
  have hcell := Lib.hid (heap_alloc_new w (.cells #[.int .i64 ba, .int .i64 nx, .int .i64 0, .int .i64 ge, .slice A n c, .bool false, .bool false, .bool false, .int .i64 0, .int .u32 0] 86))
  clear h hP hr hap
  go_enter Tryd.func44, Tryd.ntmps44
  go_wp2_with fail
  have hwl : w.heap.size < (w.alloc (.cells #[.int .i64 ba, .int .i64 nx, .int .i64 0, .int .i64 ge, .slice A n c, .bool false, .bool false, .bool false, .int .i64 0, .int .u32 0] 86)).heap.size := by simp
  generalize w.alloc (.cells #[.int .i64 ba, .int .i64 nx, .int .i64 0, .int .i64 ge, .slice A n c, .bool false, .bool false, .bool false, .int .i64 0, .int .u32 0] 86) = wb at hbw hcell hwl ⊢
  refine (HB.out wb hbw).mono ?_
  rintro e w2 ⟨v, rfl, hM⟩
  obtain ⟨A2, c2, rfl, hc2, hc3, hrd⟩ := hM.own.reads
  have hq2 := (hM.below.block _ hwl).trans hcell.out
  have s0 : w2.cell? ⟨w.heap.size, 0, none⟩ = some (.int .i64 ba) := cell_of_row w2 w.heap.size 0 _ _ _ hq2
  have s3 : w2.cell? ⟨w.heap.size, 3, none⟩ = some (.int .i64 ge) := cell_of_row w2 w.heap.size 3 _ _ _ hq2
  have hb2 : Below w.heap.size w w2 := hbw.trans (hM.below.mono hbw.size)
  have hsb2 := hM.below.size
  have HM := Lib.hid hrd
  have hle := H.out.1.env.le
  obtain ⟨k, hk⟩ : ∃ k, Hid (bs.length = k) := ⟨_, rfl⟩
  rw [hk.out] at hbl hc2 HM hroom ⊢
  clear hM hrd hq2 hcell HB
  have hsw := hb2.size
  have hsw2 := hbw.size
  go_wp2_with fail
  refine (HN.out w2 (H.out.2.on (hb2.mono hle)) (by omega)).mono ?_
  rintro e w3 ⟨rfl, hb3⟩
  have hb3' : Below w.heap.size w w3 := hb2.trans (hb3.mono hsw)
  have hr3 := HM.out.below hb3
  have hs3 := hb3.size
  have hap3 : Apart (New wb w2) F := fun j hj hF => by have := H.out.1.fin j hF; have := hj.1; omega
  have HP := Lib.hid (gPut B sb nm A2 k c2 bs w3 F (New wb w2) room (H.out.1.below hb3') hsz hv hr3 hap3 (by omega) (by omega))
  have HR := Lib.hid (And.intro hr3 hap3)
  have HB3 := Lib.hid hb3'
  clear hr3 hap3 hb3 HN hb3' hb2 s0 s3 HM
  go_wp2_with fail
  refine HP.out.mono ?_
  rintro e w4 ⟨rfl, h4, hk4⟩
  have hr4 := HR.out.1.keeps hk4 HR.out.2
  have HG := Lib.hid (gGet B sb nm bs w4 _ room h4 hsz hv)
  have hs4 := hk4.size
  have HR4 := Lib.hid (And.intro hr4 hk4)
  clear h4 hr4 hk4 HP
  go_wp2_with fail
  refine HG.out.mono ?_
  rintro e w5 ⟨A5, c5, rfl, hc5, hr5, h5, hk5⟩
  rw [hk.out] at hc5 hr5 ⊢
  have hr5' := HR4.out.1.keeps hk5 (fun j hj hF => by
    rcases hF with hF | hF
    · exact HR.out.2 j hj hF
    · have := hj.2; have := hF.1; omega)
  have HE0 := bEqual_any A2 A5 k k c2 c5 bs bs w5 _ _ hr5' hr5 HBy.out HBy.out
  rw [decide_eq_true (rfl : bs = bs)] at HE0
  have HE := Lib.hid HE0
  have HS := Lib.hid (cSum_any A2 k c2 bs w5 _ hr5' (by omega) HBy.out)
  have hs5 := hk5.size
  have H5 := Lib.hid (And.intro h5 hk5)
  clear h5 hk5 hr5 hr5' HG HE0
  go_wp2_with fail
  refine HE.out.mono ?_
  rintro e w6 ⟨rfl, hw⟩
  rw [hw]
  clear hw w6
  go_wp2_with fail
  refine HS.out.mono ?_
  rintro e w6 ⟨rfl, hw⟩
  rw [hw]
  clear hw w6
  obtain ⟨cs, hcs⟩ : ∃ cs, Hid (crcSum bs = cs) := ⟨_, rfl⟩
  rw [hcs.out]
  go_wp2
  go_ret3
  have hF5 : ∀ j, Grow F w3 w4 j → Grow F w w5 j := fun j hj => hj.imp id fun hj => ⟨by omega, by omega⟩
  refine ⟨by rw [← hcs.out, ← hk.out]; rfl, H5.out.1.widen H.out.1 (by omega) hF5, ?_⟩
  exact ((Keeps.of_below HB3.out F).trans HR4.out.2).step H5.out.2 (fun j hj hlt => hj.elim id fun hj => by omega)

def TGot (B : Nat) (w : World) (F : Foot) (sb : Nat) (room : Int) (s : ByteArray) (b : List Int) (rs : List Record) (e : Ending) (w' : World) : Prop :=
  ∃ A c, e = .returned (.tuple #[.slice A rs.length c, .int .i64 0]) ∧ RS kRecord w' (New w w') A rs.length rs ∧ SW B w' F sb room [] [(s, b)] ∧ Keeps F w w'
theorem SW.thenBelow {B sb : Nat} {w w' : World} {F : Foot} {room : Int} {bad : List Int} {c : SObjs} (h : SW B w F sb room bad c) (hb : Below w.heap.size w w') : SW B w' F sb room bad c := h.below hb

set_option maxHeartbeats 8000000 in
set_option maxRecDepth 100000 in
theorem tFetch_any (B sb : Nat) (l : List Record) (ba ge : Nat) (off mx : Int) (w : World) (F : Foot) (room : Int) (h : SW B w F sb room [] [(objName ba ge, segBytes l)]) (hP : PowBelow B w) (hl : l.length ≤ 1000)
    (hba : ba < 10000000000000000) (hge : ge < 10000000000000000) (hok : ∀ r ∈ l, r.Okay) (hR : Rising (-1) l) :
    Calls Tryd.prog 45 #[.pointer (some ⟨sb, 0, none⟩), .int .i64 ba, .int .i64 ge, .int .u32 (crcSum (segBytes l)), .int .i64 off, .int .i64 mx] w (TGot B w F sb room (objName ba ge) (segBytes l) (recFrom l off mx)) := by
  have hv := objName_valid ba ge hba hge
  have hbl := segBytes_len l
  have hsz : (objName ba ge).size ≤ 35184372088832 := by
    have h1 := dec_long 15 ba hba
    have h2 := dec_long 15 ge hge
    rw [objName_size]
    omega
  have HRd := Lib.hid (fun A n c w1 F1 hb hnc => Read_any A n c l w1 F1 hb hnc (by omega) hok hR)
  have HFr := Lib.hid (fun A n c w1 F1 hr hn => segFrom_any A n c l off mx w1 F1 hr hn)
  have HBy := Lib.hid (segBytes_bytes l)
  obtain ⟨bs, hbs⟩ : ∃ bs, Hid (segBytes l = bs) := ⟨_, rfl⟩
  obtain ⟨nm, hnm⟩ : ∃ nm, Hid (objName ba ge = nm) := ⟨_, rfl⟩
  obtain ⟨rs, hrs⟩ : ∃ rs, Hid (recFrom l off mx = rs) := ⟨_, rfl⟩
  obtain ⟨cs, hcs⟩ : ∃ cs, Hid (crcSum bs = cs) := ⟨_, rfl⟩
  have HN := Lib.hid (Name_any B ba ge (by omega) (by omega) w hP h.env.le)
  rw [hbs.out] at hbl HRd HBy h ⊢
  rw [hnm.out] at hv hsz HN h ⊢
  rw [hrs.out] at HFr ⊢
  rw [hcs.out]
  obtain ⟨k, hk⟩ : ∃ k, Hid (bs.length = k) := ⟨_, rfl⟩
  rw [hk.out] at hbl
  have H := Lib.hid h
  clear h hP hok hR
  go_enter Tryd.func45, Tryd.ntmps45
  go_wp2_with fail
  refine HN.out.mono ?_
  rintro e w1 ⟨rfl, hb1⟩
  have HG := Lib.hid (gGet B sb nm bs w1 _ room (H.out.below hb1) hsz hv)
  have HB1 := Lib.hid hb1
  have hs1 := hb1.size
  clear hb1 HN
  go_wp2_with fail
  refine HG.out.mono ?_
  rintro e w2 ⟨A2, c2, rfl, hc2, hr2, h2, hk2⟩
  rw [hk.out] at hc2 hr2 ⊢
  have HS := cSum_any A2 k c2 bs w2 _ hr2 (by omega) HBy.out
  rw [hcs.out] at HS
  have HS2 := Lib.hid HS
  have HR2 := Lib.hid (HRd.out A2 k c2 w2 _ hr2 hc2)
  have H2 := Lib.hid (And.intro h2 hk2)
  have hs2 := hk2.size
  clear hr2 h2 hk2 HG HRd HS
  go_wp2_with fail
  refine HS2.out.mono ?_
  rintro e w6 ⟨rfl, hw⟩
  rw [hw]
  clear hw w6 HS2
  go_wp2_with fail
  refine HR2.out.mono ?_
  rintro e w3 ⟨A3, c3, rfl, hc3, hr3, hb3⟩
  have HF3 := Lib.hid (HFr.out A3 l.length c3 w3 _ hr3 (by omega))
  have HB3 := Lib.hid hb3
  have hs3 := hb3.size
  obtain ⟨m, hm⟩ : ∃ m, Hid (l.length = m) := ⟨_, rfl⟩
  rw [hm.out] at HF3 hc3 ⊢
  clear hr3 hb3 HR2 HFr
  go_wp2_with fail
  refine HF3.out.mono ?_
  rintro e w4 ⟨A4, c4, rfl, hr4, hb4⟩
  obtain ⟨q, hq⟩ : ∃ q, Hid (rs.length = q) := ⟨_, rfl⟩
  rw [hq.out] at hr4 ⊢
  have HH := Lib.hid (And.intro hr4 hb4)
  have hs4 := hb4.size
  clear hr4 hb4 HF3
  go_wp2
  go_ret2
  obtain ⟨hr4, hb4⟩ := HH.out
  have hb24 : Below w2.heap.size w2 w4 := HB3.out.trans (hb4.mono hs3)
  refine ⟨A4, c4, by rw [hq.out]; rfl, ?_, H2.out.1.below hb24, ((Keeps.of_below HB1.out F).trans H2.out.2).then_below hb24⟩
  rw [hq.out]
  exact hr4.mono fun j hj => ⟨by have := hj.1; omega, hj.2⟩

def TBad (B : Nat) (w : World) (F : Foot) (sb : Nat) (room : Int) (s : ByteArray) (b : List Int) (e : Ending) (w' : World) : Prop :=
  e = .returned (.tuple #[.slice none 0 0, .int .i64 5]) ∧ SW B w' F sb room [] [(s, b)] ∧ Keeps F w w'
set_option maxHeartbeats 8000000 in
set_option maxRecDepth 100000 in
theorem tFetch_bad (B sb : Nat) (l : List Record) (ba ge : Nat) (off mx sum : Int) (w : World) (F : Foot) (room : Int) (h : SW B w F sb room [] [(objName ba ge, segBytes l)]) (hP : PowBelow B w) (hl : l.length ≤ 1000)
    (hba : ba < 10000000000000000) (hge : ge < 10000000000000000) (hsum : sum ≠ crcSum (segBytes l)) :
    Calls Tryd.prog 45 #[.pointer (some ⟨sb, 0, none⟩), .int .i64 ba, .int .i64 ge, .int .u32 sum, .int .i64 off, .int .i64 mx] w (TBad B w F sb room (objName ba ge) (segBytes l)) := by
  have hv := objName_valid ba ge hba hge
  have hbl := segBytes_len l
  have hsz : (objName ba ge).size ≤ 35184372088832 := by
    have h1 := dec_long 15 ba hba
    have h2 := dec_long 15 ge hge
    rw [objName_size]
    omega
  have HBy := Lib.hid (segBytes_bytes l)
  obtain ⟨bs, hbs⟩ : ∃ bs, Hid (segBytes l = bs) := ⟨_, rfl⟩
  obtain ⟨nm, hnm⟩ : ∃ nm, Hid (objName ba ge = nm) := ⟨_, rfl⟩
  obtain ⟨cs, hcs⟩ : ∃ cs, Hid (crcSum bs = cs) := ⟨_, rfl⟩
  have HN := Lib.hid (Name_any B ba ge (by omega) (by omega) w hP h.env.le)
  rw [hbs.out] at hbl HBy h hsum ⊢
  rw [hnm.out] at hv hsz HN h ⊢
  rw [hcs.out] at hsum
  have hne : (cs != sum) = true := by rw [bne_iff_ne]; exact fun e => hsum e.symm
  obtain ⟨k, hk⟩ : ∃ k, Hid (bs.length = k) := ⟨_, rfl⟩
  rw [hk.out] at hbl
  have H := Lib.hid h
  clear h hP hsum
  go_enter Tryd.func45, Tryd.ntmps45
  go_wp2_with fail
  refine HN.out.mono ?_
  rintro e w1 ⟨rfl, hb1⟩
  have HG := Lib.hid (gGet B sb nm bs w1 _ room (H.out.below hb1) hsz hv)
  have HB1 := Lib.hid hb1
  clear hb1 HN
  go_wp2_with fail
  refine HG.out.mono ?_
  rintro e w2 ⟨A2, c2, rfl, hc2, hr2, h2, hk2⟩
  rw [hk.out] at hc2 hr2 ⊢
  have HS := cSum_any A2 k c2 bs w2 _ hr2 (by omega) HBy.out
  rw [hcs.out] at HS
  have HS2 := Lib.hid HS
  have H2 := Lib.hid (And.intro h2 hk2)
  clear hr2 h2 hk2 HG HS
  go_wp2_with fail
  refine HS2.out.mono ?_
  rintro e w6 ⟨rfl, hw⟩
  rw [hw]
  clear hw w6 HS2
  go_wp2
  go_ret2
  exact ⟨rfl, H2.out.1, (Keeps.of_below HB1.out F).trans H2.out.2⟩
end Go.Proofs.YtfjndjbpgcggkaaDoor
