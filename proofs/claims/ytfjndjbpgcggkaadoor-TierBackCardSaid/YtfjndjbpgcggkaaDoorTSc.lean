/- segment.Scan, Read: of bytes that segment.Bytes wrote. -/
import Derived.Test.YtfjndjbpgcggkaaDoorV15
import Derived.Test.YtfjndjbpgcggkaaDoorV8
import Derived.Test.YtfjndjbpgcggkaaDoorVP2
set_option linter.unusedVariables false
set_option linter.unusedSimpArgs false
namespace Go.Proofs.YtfjndjbpgcggkaaDoor
open Go.RowKit
attribute [local go_sem] Same.cell Same.frozen

def ScanPost (w : World) (l : List Record) (n : Nat) (e : Ending) (w' : World) : Prop :=
  ∃ A' c', e = .returned (.tuple #[.slice A' l.length c', .int .i64 n]) ∧ l.length ≤ c' ∧ RS kRecord w' (New w w') A' l.length l ∧ Below w.heap.size w w'
theorem lastOff_lt (l : List Record) (i : Nat) (r : Record) (hR : Rising (-1) l) (h : l[i]? = some r) : lastOff l i < r.Offset := by
  have := rising_lt l (-1) i r hR h
  cases i with
  | zero => exact this
  | succ k => exact this
theorem below_drewN' {B : Nat} {w w' : World} (h : Below B w w') (n : Nat) : Below B w (w'.drewN n) := ⟨h.os, h.tape, h.output, h.size, h.block⟩
theorem fput_bytes (p : List Int) (hl : p.length < 18446744073709551616) (hp : Bytes p) : Bytes (fput p) :=
  ((vput_bytes _ hl).app (sum4_bytes _ (crcMore_range _ _))).app hp
theorem segBytes_bytes : ∀ l : List Record, Bytes (segBytes l)
  | [] => fun c hc => by simp [segBytes] at hc
  | r :: l => by
    rw [segBytes]
    refine Bytes.app ?_ (segBytes_bytes l)
    split
    · rename_i h
      exact fput_bytes _ (by have := recPut_len r h; omega) (recPut_bytes r h)
    · exact fun c hc => by simp at hc
theorem rec_parts (l : List Record) (i : Nat) (r : Record) (h : l[i]? = some r) (hok : r.Okay) :
    fget ((segBytes l).drop (segBytes (l.take i)).length) = (recPut r, (fput (recPut r)).length, 0) ∧ (segBytes (l.take (i + 1))).length = (segBytes (l.take i)).length + (fput (recPut r)).length ∧ 1 ≤ (fput (recPut r)).length ∧ (segBytes (l.take i)).length + (fput (recPut r)).length ≤ (segBytes l).length := by
  have e := segBytes_take_okay l i r h hok
  have hl := recPut_len r hok
  refine ⟨?_, ?_, ?_, ?_⟩
  · rw [e, List.drop_left, fget_fput _ _ (by omega)]
  · rw [segBytes_take l i r h, if_pos hok, List.length_append]
  · unfold fput
    simp only [List.length_append]
    show 1 ≤ _ + 4 + _
    omega
  · have := congrArg List.length e
    simp only [List.length_append] at this
    omega

set_option maxHeartbeats 8000000 in
set_option maxRecDepth 100000 in
theorem Scan_any (A : Option Addr) (n c : Nat) (l : List Record) (w : World) (F : Foot) (hb : RS (kInt .u8) w F A n (segBytes l)) (hnc : n ≤ c) (hll : l.length ≤ 100000) (hok : ∀ r ∈ l, r.Okay) (hR : Rising (-1) l) :
    Calls Tryd.prog 143 #[.slice A n c] w (ScanPost w l n) := by
  have hn0 : (segBytes l).length = n := hb.length
  have hnl : n ≤ 225500000 := by have := segBytes_len l; omega
  have HN := Lib.hid hn0
  have HB := Lib.hid hb
  have HBy := Lib.hid (segBytes_bytes l)
  have HOk := Lib.hid hok
  have HR := Lib.hid hR
  clear hb hn0 hok hR
  go_enter Tryd.func143, Tryd.ntmps143
  go_wp2
  go_loopw [4, 5, 6] (fun v q p wr => ∃ (i k : Nat) (A1 : Option Addr) (c1 : Nat), v = .slice A1 i c1 ∧ q = .int .i64 k ∧ p = .int .i64 (lastOff l i) ∧ i ≤ l.length ∧ Hid (k = (segBytes (l.take i)).length ∧ True) ∧ Hid (RowR w wr (.slice A1 i c1) (l.take i) i ∧ True)) (fun _ q _ _ => n - (intOf q).toNat)
  case atStart => exact ⟨0, 0, none, 0, rfl, rfl, rfl, Nat.zero_le _, ⟨rfl, trivial⟩, ⟨by simpa using OwnS.nil, Below.refl _ _, rfl⟩, trivial⟩
  case round =>
    obtain ⟨i, k, A1, c1, rfl, rfl, rfl, hi, hk, hO⟩ := hrel
    by_cases hlt : i < l.length
    · obtain ⟨r, hx0⟩ : ∃ r, l[i]? = some r := ⟨_, List.getElem?_eq_getElem hlt⟩
      have hokr := HOk.out r (List.mem_of_getElem? hx0)
      obtain ⟨hp1, hp2, hp3, hp4⟩ := rec_parts l i r hx0 hokr
      rw [← hk.out.1] at hp1 hp2 hp4
      rw [HN.out] at hp4
      have hlo : ¬ r.Offset ≤ lastOff l i := by
        have := lastOff_lt l i r HR.out hx0
        omega
      have hlast : lastOff l (i + 1) = r.Offset := by
        show (match l[i]? with | none => -1 | some r => r.Offset) = _
        rw [hx0]
      have hLs := Lib.hid (And.intro hp2 hlast)
      have hrp := recPut_len r hokr
      have HRp := Lib.hid (And.intro (recPut_bytes r hokr) (recGet_put r hokr))
      have htk := Lib.hid (show l.take (i + 1) = l.take i ++ [r] by rw [List.take_add_one, hx0]; rfl)
      obtain ⟨fl, hfl⟩ : ∃ fl, Hid ((fput (recPut r)).length = fl) := ⟨_, rfl⟩
      rw [hfl.out] at hp1 hp3 hp4 hLs
      obtain ⟨A2, hsl, htl⟩ := cut_lo tBytes .i64 A n c k (by omega)
      have hrd := htl (kInt .u8) wr _ (segBytes l) rfl hnc (HB.out.below hO.out.1.below)
      have HF := fGet_any A2 (n - k) (c - k) ((segBytes l).drop k) wr _ hrd (by omega) (by omega) (HBy.out.sub fun y hy => List.mem_of_mem_drop hy)
      rw [hp1] at HF
      have HF2 := Lib.hid HF
      obtain ⟨lo, hlo2⟩ : ∃ lo, Hid (lastOff l i = lo) := ⟨_, rfl⟩
      rw [hlo2.out] at hlo
      rw [hlo2.out]
      obtain ⟨pc, hpc⟩ : ∃ pc, Hid (recPut r = pc) := ⟨_, rfl⟩
      rw [hpc.out] at hrp HRp HF2
      clear hx0 hokr hp1 hp2 hlast htl hrd HF
      go_wp2_with fail
      refine HF2.out.mono ?_
      rintro e w1 ⟨A3, c3, rfl, hc3, hc4, hr3, hb3⟩
      dsimp only at hc3 hr3
      obtain ⟨pl, hpl⟩ : ∃ pl, Hid (pc.length = pl) := ⟨_, rfl⟩
      rw [hpl.out] at hc3 hr3 hrp
      dsimp only
      rw [hpl.out]
      have HG := recGetP_any A3 pl c3 pc w1 _ hr3 (by omega) hc3 HRp.out.1 (by rw [HRp.out.2])
      rw [HRp.out.2, hpl.out] at HG
      have HG2 := Lib.hid HG
      have HO1 := Lib.hid (hO.out.1.moved hb3)
      clear HG hr3 hb3 hc3 hc4 HF2
      go_wp2_with fail
      refine HG2.out.mono ?_
      rintro e w2 ⟨rfl, hb4⟩
      dsimp only
      have HO2 := Lib.hid (HO1.out.moved hb4)
      clear hb4 HG2 HO1 hO
      have hal : Below w2.heap.size w2 (w2.alloc (.cells #[.int .i64 r.Offset, .int .i64 r.Time, .string r.Key, .string r.Value, .bool r.Dead] 79)) := (Below.refl _ _).alloc (Nat.le_refl _) _
      have hr2 := lit1R (w2.alloc (.cells #[.int .i64 r.Offset, .int .i64 r.Time, .string r.Key, .string r.Value, .bool r.Dead] 79)) r
      simp only [World.size_alloc] at hr2
      have hbl : Below (w2.alloc (.cells #[.int .i64 r.Offset, .int .i64 r.Time, .string r.Key, .string r.Value, .bool r.Dead] 79)).heap.size (w2.alloc (.cells #[.int .i64 r.Offset, .int .i64 r.Time, .string r.Key, .string r.Value, .bool r.Dead] 79)) ((w2.alloc (.cells #[.int .i64 r.Offset, .int .i64 r.Time, .string r.Key, .string r.Value, .bool r.Dead] 79)).alloc (.cells #[.int .i64 r.Offset, .int .i64 r.Time, .string r.Key, .string r.Value, .bool r.Dead] 79)) := (Below.refl _ _).alloc (Nat.le_refl _) _
      have hO0 := HO2.out.moved hal
      have hO3 := hO0.own.below hbl
      go_wp2_with (first
        | (at_builtin
           refine wpList_append_S rfl tRecords (.tmp 46) (.tmp 48) rfl (K := kRecord) rfl rfl hO3 hr2 ?_ ?_ ?_ ?_))
      · intro j hj hj2
        have h1 := (hO0.own.lt j hj).1.2
        have h2 : j = (w2.alloc (.cells #[.int .i64 r.Offset, .int .i64 r.Time, .string r.Key, .string r.Value, .bool r.Dead] 79)).heap.size := hj2.trans (World.size_alloc _ _).symm
        omega
      · have := hO0.len; omega
      · have := hO0.len; omega
      intro v4 w4 hA
      have HO4 := Lib.hid (hO0.app hbl hA)
      obtain ⟨A4, m4, c4, rfl⟩ := HO4.out.own.shape
      have hm4 : m4 = i + 1 := by
        obtain ⟨A', c', e', _⟩ := HO4.out.own.slice
        injection e' with _ e' _
        rw [e', HO4.out.len]
      subst hm4
      have hqb : w4.heap[w2.heap.size]? = some (.cells #[.int .i64 r.Offset, .int .i64 r.Time, .string r.Key, .string r.Value, .bool r.Dead] 79 (0, 0)) := by
        refine (hA.grown.block _ (by simp; omega) ?_).trans ((Below.heap_alloc _ _ _ (by simp)).trans (heap_alloc_new w2 _))
        intro hj
        have h1 := (HO2.out.own.lt _ hj.symm).1.2
        omega
      obtain ⟨b0, -, -, -, -⟩ := box_Record hqb
      have hql : w2.heap.size < w4.heap.size := (Array.getElem?_eq_some_iff.1 hqb).1
      clear hA hr2 hbl hO3 hO0 hqb hal
      go_wp2_with fail
      go_quiet (fail)
      go_wp2
      go_roundw
      case rel =>
        refine ⟨i + 1, k + fl, A4, c4, rfl, by go_num, by rw [hLs.out.2], by omega, ⟨hLs.out.1.symm, trivial⟩, ?_, trivial⟩
        rw [htk.out]
        have h4 := HO4.out
        exact ⟨h4.own.keep (Nat.le_refl _) (fun _ _ _ => rfl), below_drewN' h4.below nq, h4.len⟩
      case measure => simp [intOf]; omega
    · obtain rfl : i = l.length := by omega
      have hl : l.take l.length = l := List.take_length
      rw [hl] at hO
      have hkn : k = n := by rw [hk.out.1, hl]; exact HN.out
      obtain ⟨A', c', e', hc1, -, hrr⟩ := hO.out.1.own.reads
      injection e' with e1 e2 e3
      subst e1 e3 hkn
      have HX := Lib.hid (And.intro hrr hO.out.1.below)
      have HC := Lib.hid hc1
      clear hrr hc1
      go_wp2
      go_ret2
      exact ⟨A1, c1, rfl, HC.out, HX.out.1, HX.out.2⟩

def ReadPost (w : World) (l : List Record) (e : Ending) (w' : World) : Prop :=
  ∃ A' c', e = .returned (.tuple #[.slice A' l.length c', .int .i64 0]) ∧ l.length ≤ c' ∧ RS kRecord w' (New w w') A' l.length l ∧ Below w.heap.size w w'
set_option maxHeartbeats 2000000 in
theorem Read_any (A : Option Addr) (n c : Nat) (l : List Record) (w : World) (F : Foot) (hb : RS (kInt .u8) w F A n (segBytes l)) (hnc : n ≤ c) (hll : l.length ≤ 100000) (hok : ∀ r ∈ l, r.Okay) (hR : Rising (-1) l) :
    Calls Tryd.prog 101 #[.slice A n c] w (ReadPost w l) := by
  have HS := Lib.hid (Scan_any A n c l w F hb hnc hll hok hR)
  clear hb hok hR
  go_enter Tryd.func101, Tryd.ntmps101
  go_wp2_with fail
  refine HS.out.mono ?_
  rintro e w1 ⟨A', c', rfl, h1, h2, h3⟩
  have HH := Lib.hid (And.intro h1 (And.intro h2 h3))
  clear h1 h2 h3
  go_wp2
  go_ret2
  exact ⟨A', c', rfl, HH.out⟩
end Go.Proofs.YtfjndjbpgcggkaaDoor
