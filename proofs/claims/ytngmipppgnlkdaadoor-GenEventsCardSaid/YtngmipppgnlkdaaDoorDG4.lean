/- Events of a lot: the program's event. -/
import Derived.Test.YtngmipppgnlkdaaDoorDG3
set_option linter.unusedVariables false
set_option linter.unusedSimpArgs false
namespace Go.Proofs.YtngmipppgnlkdaaDoor
open Go.RowKit

def genEv (st n : Int) (i : Nat) : Event × Int :=
  let s1 := lotStep st
  let k := lotVal s1 12
  let s2 := lotStep s1
  if k < 4 then (evOf 1 (lotVal s2 n) 0 0, s2)
  else if k < 9 then (evOf 2 0 (lotVal s2 9) 0, s2)
  else if k < 10 then submitEv s1 n i
  else if k < 11 then (evOf 3 0 (lotVal s2 9) 0, s2)
  else otherEv s1 n

theorem EvW.post2 {w w2 w3 w4 : World} {g b : Nat} {s1 s2 : Int} {cs cs' : Array Value} {x : Event} {A5 : Option Addr} {c5 : Nat} {A9 : Option Addr} {c9 : Nat} (h2 : EvW w g b s1 cs w2) (ha : EvAt w3 (New w2 w3) x A5 c5 A9 c9) (hL : LotAt 77 w3 g s2) (hK : Keeps (fun k => k = g) w2 w3)
    (hw1 : w4.heap[b]? = some (.cells cs' 52 (0, 0))) (hw2 : Keeps (fun k => k = b) w3 w4) : EvPost g (x, s2) w (.returned (.agg #[.int .i64 x.Kind, .int .i64 x.Node, .int .i64 x.Message, .int .i64 x.Keep, .int .i64 x.What, .slice A5 x.Fault.length c5, .int .i64 x.Cmd.Kind, .int .i64 x.Cmd.Pid, .int .i64 x.Cmd.Seq, .slice A9 x.Cmd.Records.length c9, .string x.Cmd.Group, .int .i64 x.Cmd.Offset, .int .i64 x.Cmd.Max, .int .i64 x.Cmd.Now, .int .u32 x.Cmd.Sum, .int .i64 x.Cmd.Conf.Segment, .int .i64 x.Cmd.Conf.Keep, .int .i64 x.Cmd.Conf.Age, .int .i64 x.Cmd.Conf.Grace])) w4 := by
  have h4 := (h2.next hL hK).store hw1 hw2
  have hb := h2.lt
  have hw := h2.keep.size
  have hs := hw2.size
  refine ⟨A5, c5, A9, c9, rfl, (ha.keep fun k hk hlt => hw2.block k hlt fun e => by have : k = b := e; have := hk.1; omega).mono fun k hk => ?_, h4.lot, h4.keep⟩
  have := hk.1; have := hk.2
  exact ⟨by omega, by omega⟩

set_option maxRecDepth 100000 in
set_option maxHeartbeats 4000000 in
theorem event_any (g : Nat) (st n : Int) (i : Nat) (hi : i ≤ 2000) (B : Nat) (w : World) (h0 : LotAt 77 w g st) (ok : LotOk st) (hBg : B ≤ g) (hT : i < 100 ∨ PowBelow B w) :
    Calls Tryd.prog 34 #[.pointer (some ⟨g, 0, none⟩), .int .i64 n, .int .i64 i] w (EvPost g (genEv st n i) w) := by
  obtain ⟨s1, hs1⟩ : ∃ s, Hid (lotStep st = s) := ⟨_, rfl⟩
  obtain ⟨s2, hs2⟩ : ∃ s, Hid (lotStep s1 = s) := ⟨_, rfl⟩
  obtain ⟨o, ho⟩ : ∃ o, Hid (lotVal s1 12 = o) := ⟨_, rfl⟩
  obtain ⟨v, hv⟩ : ∃ v, Hid (lotVal s2 n = v) := ⟨_, rfl⟩
  obtain ⟨v9, hv9⟩ : ∃ v, Hid (lotVal s2 9 = v) := ⟨_, rfl⟩
  obtain ⟨rs, hrs⟩ : ∃ r, Hid (submitEv s1 n i = r) := ⟨_, rfl⟩
  obtain ⟨ro, hro⟩ : ∃ r, Hid (otherEv s1 n = r) := ⟨_, rfl⟩
  have ok1 : LotOk s1 := by rw [← hs1.out]; exact lotStep_ok _
  have Hev : Hid (genEv st n i = if o < 4 then (evOf 1 v 0 0, s2) else if o < 9 then (evOf 2 0 v9 0, s2) else if o < 10 then rs else if o < 11 then (evOf 3 0 v9 0, s2) else ro) := by
    show genEv st n i = _
    unfold genEv
    simp only [hs1.out, hs2.out, ho.out, hv.out, hv9.out, hrs.out, hro.out]
  obtain ⟨r, hr⟩ : ∃ r, Hid (genEv st n i = r) := ⟨_, rfl⟩
  rw [hr.out]
  go_enter Tryd.func34, Tryd.ntmps34
  go_wp2_with fail
  have hE := EvW.start h0 #[.int .i64 0, .int .i64 0, .int .i64 0, .int .i64 0, .int .i64 0, .slice none 0 0, .int .i64 0, .int .i64 0, .int .i64 0, .slice none 0 0, .string ⟨#[]⟩, .int .i64 0, .int .i64 0, .int .i64 0, .int .u32 0, .int .i64 0, .int .i64 0, .int .i64 0, .int .i64 0]
  generalize w.alloc (.cells #[.int .i64 0, .int .i64 0, .int .i64 0, .int .i64 0, .int .i64 0, .slice none 0 0, .int .i64 0, .int .i64 0, .int .i64 0, .slice none 0 0, .string ⟨#[]⟩, .int .i64 0, .int .i64 0, .int .i64 0, .int .u32 0, .int .i64 0, .int .i64 0, .int .i64 0, .int .i64 0] 52) = w1 at hE ⊢
  generalize w.heap.size = b at hE ⊢
  refine (Next_any g st 12 w1 hE.lot ok).mono ?_
  rintro e w2 ⟨rfl, hL, hK, -⟩
  rw [hs1.out] at hL
  rw [hs1.out, ho.out]
  have hE2 := hE.next hL hK
  clear hE hL hK
  by_cases c0 : o < 4
  · go_wp2_with fail
    refine (Next_any g s1 n w2 hE2.lot ok1).mono ?_
    rintro e w3 ⟨rfl, hL, hK, -⟩
    rw [hs2.out] at hL
    rw [hs2.out, hv.out]
    have hE3 := hE2.next hL hK
    clear hL hK
    go_wp2_with (refine wpList_store_box 52 (.tmp 6) (.tmp 16) b #[.int .i64 1, .int .i64 v, .int .i64 0, .int .i64 0, .int .i64 0, .slice none 0 0, .int .i64 0, .int .i64 0, .int .i64 0, .slice none 0 0, .string ⟨#[]⟩, .int .i64 0, .int .i64 0, .int .i64 0, .int .u32 0, .int .i64 0, .int .i64 0, .int .i64 0, .int .i64 0] 52 #[.int .i64 0, .int .i64 0, .int .i64 0, .int .i64 0, .int .i64 0, .slice none 0 0, .int .i64 0, .int .i64 0, .int .i64 0, .slice none 0 0, .string ⟨#[]⟩, .int .i64 0, .int .i64 0, .int .i64 0, .int .u32 0, .int .i64 0, .int .i64 0, .int .i64 0, .int .i64 0] rfl rfl rfl rfl hE3.box (by kernel_rfl) rfl rfl ?_)
    intro w4 hw1 hw2
    have HW := Lib.hid (And.intro hw1 hw2)
    clear hw1 hw2
    go_wp2
    obtain ⟨hw1, hw2⟩ := HW.out
    exact bodyPost_ret (v := .agg #[.int .i64 1, .int .i64 v, .int .i64 0, .int .i64 0, .int .i64 0, .slice none 0 0, .int .i64 0, .int .i64 0, .int .i64 0, .slice none 0 0, .string ⟨#[]⟩, .int .i64 0, .int .i64 0, .int .i64 0, .int .u32 0, .int .i64 0, .int .i64 0, .int .i64 0, .int .i64 0]) (results_box Tryd.results34 rfl hw1 Tryd.underlying52 rfl (by kernel_rfl)) rfl (by rw [← hr.out, Hev.out, if_pos (show o < 4 by omega)]; exact (hE3.store hw1 hw2).post)
  by_cases c1 : o < 9
  · go_wp2_with fail
    refine (Next_any g s1 9 w2 hE2.lot ok1).mono ?_
    rintro e w3 ⟨rfl, hL, hK, -⟩
    rw [hs2.out] at hL
    rw [hs2.out, hv9.out]
    have hE3 := hE2.next hL hK
    clear hL hK
    go_wp2_with (refine wpList_store_box 52 (.tmp 6) (.tmp 22) b #[.int .i64 2, .int .i64 0, .int .i64 v9, .int .i64 0, .int .i64 0, .slice none 0 0, .int .i64 0, .int .i64 0, .int .i64 0, .slice none 0 0, .string ⟨#[]⟩, .int .i64 0, .int .i64 0, .int .i64 0, .int .u32 0, .int .i64 0, .int .i64 0, .int .i64 0, .int .i64 0] 52 #[.int .i64 0, .int .i64 0, .int .i64 0, .int .i64 0, .int .i64 0, .slice none 0 0, .int .i64 0, .int .i64 0, .int .i64 0, .slice none 0 0, .string ⟨#[]⟩, .int .i64 0, .int .i64 0, .int .i64 0, .int .u32 0, .int .i64 0, .int .i64 0, .int .i64 0, .int .i64 0] rfl rfl rfl rfl hE3.box (by kernel_rfl) rfl rfl ?_)
    intro w4 hw1 hw2
    have HW := Lib.hid (And.intro hw1 hw2)
    clear hw1 hw2
    go_wp2
    obtain ⟨hw1, hw2⟩ := HW.out
    exact bodyPost_ret (v := .agg #[.int .i64 2, .int .i64 0, .int .i64 v9, .int .i64 0, .int .i64 0, .slice none 0 0, .int .i64 0, .int .i64 0, .int .i64 0, .slice none 0 0, .string ⟨#[]⟩, .int .i64 0, .int .i64 0, .int .i64 0, .int .u32 0, .int .i64 0, .int .i64 0, .int .i64 0, .int .i64 0]) (results_box Tryd.results34 rfl hw1 Tryd.underlying52 rfl (by kernel_rfl)) rfl (by rw [← hr.out, Hev.out, if_neg (show ¬ o < 4 by omega), if_pos (show o < 9 by omega)]; exact (hE3.store hw1 hw2).post)
  by_cases c2 : o < 10
  · have hT2 : i < 100 ∨ PowBelow B w2 := hT.imp id fun h => h.keeps (by have := h0.lt; omega) hBg hE2.keep
    go_wp2_with fail
    refine (submit_any g s1 n i hi B w2 hE2.lot ok1 hBg hT2).mono ?_
    rw [hrs.out]
    rintro e w3 ⟨A5, c5, A9, c9, rfl, ha, hL, hK⟩
    obtain ⟨x, s3⟩ := rs
    dsimp only at ha hL ⊢
    have hE3 := hE2.next hL hK
    go_wp2_with (refine wpList_store_box 52 (.tmp 6) (.tmp 29) b #[.int .i64 x.Kind, .int .i64 x.Node, .int .i64 x.Message, .int .i64 x.Keep, .int .i64 x.What, .slice A5 x.Fault.length c5, .int .i64 x.Cmd.Kind, .int .i64 x.Cmd.Pid, .int .i64 x.Cmd.Seq, .slice A9 x.Cmd.Records.length c9, .string x.Cmd.Group, .int .i64 x.Cmd.Offset, .int .i64 x.Cmd.Max, .int .i64 x.Cmd.Now, .int .u32 x.Cmd.Sum, .int .i64 x.Cmd.Conf.Segment, .int .i64 x.Cmd.Conf.Keep, .int .i64 x.Cmd.Conf.Age, .int .i64 x.Cmd.Conf.Grace] 52 #[.int .i64 0, .int .i64 0, .int .i64 0, .int .i64 0, .int .i64 0, .slice none 0 0, .int .i64 0, .int .i64 0, .int .i64 0, .slice none 0 0, .string ⟨#[]⟩, .int .i64 0, .int .i64 0, .int .i64 0, .int .u32 0, .int .i64 0, .int .i64 0, .int .i64 0, .int .i64 0] rfl rfl rfl rfl hE3.box (by kernel_rfl) rfl rfl ?_)
    intro w4 hw1 hw2
    have HW := Lib.hid (And.intro hw1 hw2)
    clear hw1 hw2
    go_wp2
    obtain ⟨hw1, hw2⟩ := HW.out
    exact bodyPost_ret (v := .agg #[.int .i64 x.Kind, .int .i64 x.Node, .int .i64 x.Message, .int .i64 x.Keep, .int .i64 x.What, .slice A5 x.Fault.length c5, .int .i64 x.Cmd.Kind, .int .i64 x.Cmd.Pid, .int .i64 x.Cmd.Seq, .slice A9 x.Cmd.Records.length c9, .string x.Cmd.Group, .int .i64 x.Cmd.Offset, .int .i64 x.Cmd.Max, .int .i64 x.Cmd.Now, .int .u32 x.Cmd.Sum, .int .i64 x.Cmd.Conf.Segment, .int .i64 x.Cmd.Conf.Keep, .int .i64 x.Cmd.Conf.Age, .int .i64 x.Cmd.Conf.Grace]) (results_box Tryd.results34 rfl hw1 Tryd.underlying52 rfl (by kernel_rfl)) rfl (by rw [← hr.out, Hev.out, if_neg (show ¬ o < 4 by omega), if_neg (show ¬ o < 9 by omega), if_pos (show o < 10 by omega)]; exact hE2.post2 ha hL hK hw1 hw2)
  by_cases c3 : o < 11
  · go_wp2_with fail
    refine (Next_any g s1 9 w2 hE2.lot ok1).mono ?_
    rintro e w3 ⟨rfl, hL, hK, -⟩
    rw [hs2.out] at hL
    rw [hs2.out, hv9.out]
    have hE3 := hE2.next hL hK
    clear hL hK
    go_wp2_with (refine wpList_store_box 52 (.tmp 6) (.tmp 35) b #[.int .i64 3, .int .i64 0, .int .i64 v9, .int .i64 0, .int .i64 0, .slice none 0 0, .int .i64 0, .int .i64 0, .int .i64 0, .slice none 0 0, .string ⟨#[]⟩, .int .i64 0, .int .i64 0, .int .i64 0, .int .u32 0, .int .i64 0, .int .i64 0, .int .i64 0, .int .i64 0] 52 #[.int .i64 0, .int .i64 0, .int .i64 0, .int .i64 0, .int .i64 0, .slice none 0 0, .int .i64 0, .int .i64 0, .int .i64 0, .slice none 0 0, .string ⟨#[]⟩, .int .i64 0, .int .i64 0, .int .i64 0, .int .u32 0, .int .i64 0, .int .i64 0, .int .i64 0, .int .i64 0] rfl rfl rfl rfl hE3.box (by kernel_rfl) rfl rfl ?_)
    intro w4 hw1 hw2
    have HW := Lib.hid (And.intro hw1 hw2)
    clear hw1 hw2
    go_wp2
    obtain ⟨hw1, hw2⟩ := HW.out
    exact bodyPost_ret (v := .agg #[.int .i64 3, .int .i64 0, .int .i64 v9, .int .i64 0, .int .i64 0, .slice none 0 0, .int .i64 0, .int .i64 0, .int .i64 0, .slice none 0 0, .string ⟨#[]⟩, .int .i64 0, .int .i64 0, .int .i64 0, .int .u32 0, .int .i64 0, .int .i64 0, .int .i64 0, .int .i64 0]) (results_box Tryd.results34 rfl hw1 Tryd.underlying52 rfl (by kernel_rfl)) rfl (by rw [← hr.out, Hev.out, if_neg (show ¬ o < 4 by omega), if_neg (show ¬ o < 9 by omega), if_neg (show ¬ o < 10 by omega), if_pos (show o < 11 by omega)]; exact (hE3.store hw1 hw2).post)
  · go_wp2_with fail
    refine (other_any g s1 n w2 hE2.lot ok1).mono ?_
    rw [hro.out]
    rintro e w3 ⟨A5, c5, A9, c9, rfl, ha, hL, hK⟩
    obtain ⟨x, s3⟩ := ro
    dsimp only at ha hL ⊢
    have hE3 := hE2.next hL hK
    go_wp2_with (refine wpList_store_box 52 (.tmp 6) (.tmp 38) b #[.int .i64 x.Kind, .int .i64 x.Node, .int .i64 x.Message, .int .i64 x.Keep, .int .i64 x.What, .slice A5 x.Fault.length c5, .int .i64 x.Cmd.Kind, .int .i64 x.Cmd.Pid, .int .i64 x.Cmd.Seq, .slice A9 x.Cmd.Records.length c9, .string x.Cmd.Group, .int .i64 x.Cmd.Offset, .int .i64 x.Cmd.Max, .int .i64 x.Cmd.Now, .int .u32 x.Cmd.Sum, .int .i64 x.Cmd.Conf.Segment, .int .i64 x.Cmd.Conf.Keep, .int .i64 x.Cmd.Conf.Age, .int .i64 x.Cmd.Conf.Grace] 52 #[.int .i64 0, .int .i64 0, .int .i64 0, .int .i64 0, .int .i64 0, .slice none 0 0, .int .i64 0, .int .i64 0, .int .i64 0, .slice none 0 0, .string ⟨#[]⟩, .int .i64 0, .int .i64 0, .int .i64 0, .int .u32 0, .int .i64 0, .int .i64 0, .int .i64 0, .int .i64 0] rfl rfl rfl rfl hE3.box (by kernel_rfl) rfl rfl ?_)
    intro w4 hw1 hw2
    have HW := Lib.hid (And.intro hw1 hw2)
    clear hw1 hw2
    go_wp2
    obtain ⟨hw1, hw2⟩ := HW.out
    exact bodyPost_ret (v := .agg #[.int .i64 x.Kind, .int .i64 x.Node, .int .i64 x.Message, .int .i64 x.Keep, .int .i64 x.What, .slice A5 x.Fault.length c5, .int .i64 x.Cmd.Kind, .int .i64 x.Cmd.Pid, .int .i64 x.Cmd.Seq, .slice A9 x.Cmd.Records.length c9, .string x.Cmd.Group, .int .i64 x.Cmd.Offset, .int .i64 x.Cmd.Max, .int .i64 x.Cmd.Now, .int .u32 x.Cmd.Sum, .int .i64 x.Cmd.Conf.Segment, .int .i64 x.Cmd.Conf.Keep, .int .i64 x.Cmd.Conf.Age, .int .i64 x.Cmd.Conf.Grace]) (results_box Tryd.results34 rfl hw1 Tryd.underlying52 rfl (by kernel_rfl)) rfl (by rw [← hr.out, Hev.out, if_neg (show ¬ o < 4 by omega), if_neg (show ¬ o < 9 by omega), if_neg (show ¬ o < 10 by omega), if_neg (show ¬ o < 11 by omega)]; exact hE2.post2 ha hL hK hw1 hw2)
end Go.Proofs.YtngmipppgnlkdaaDoor
