/- The law GenEvents, walked. -/
import Derived.Test.YtngmipppgnlkdaaDoorDH5
import Derived.Test.YtngmipppgnlkdaaDoorDG6
set_option linter.unusedVariables false
set_option linter.unusedSimpArgs false
namespace Go.Proofs.YtngmipppgnlkdaaDoor
open Go.RowKit

theorem load_Event {W : World} {F : Foot} {A : Option Addr} {n : Nat} {xs : List Event} (h : RS kEvent W F A n xs) {i : Nat} {x : Event} (hx : xs[i]? = some x) :
    ∃ (ad : Addr) (A5 : Option Addr) (c5 : Nat) (A9 : Option Addr) (c9 : Nat), A = some ad ∧ EvAt W F x A5 c5 A9 c9 ∧ ∀ (j : Nat) v, (#[.int .i64 x.Kind, .int .i64 x.Node, .int .i64 x.Message, .int .i64 x.Keep, .int .i64 x.What, .slice A5 x.Fault.length c5, .int .i64 x.Cmd.Kind, .int .i64 x.Cmd.Pid, .int .i64 x.Cmd.Seq, .slice A9 x.Cmd.Records.length c9, .string x.Cmd.Group, .int .i64 x.Cmd.Offset, .int .i64 x.Cmd.Max, .int .i64 x.Cmd.Now, .int .u32 x.Cmd.Sum, .int .i64 x.Cmd.Conf.Segment, .int .i64 x.Cmd.Conf.Keep, .int .i64 x.Cmd.Conf.Age, .int .i64 x.Cmd.Conf.Grace] : Array Value).toList[j]? = some v → W.cell? ((ad.add (i * 19)).add j) = some v := by
  obtain ⟨ad, c, hA, hF, hr, hc⟩ := h.at_ hx
  obtain ⟨A5, c5, A9, c9, rfl, l5, m5, r5, l9, m9, r9⟩ := hr
  exact ⟨ad, A5, c5, A9, c9, hA, ⟨l5, m5, r5, l9, m9, r9⟩, fun j v hj => by rw [add_add]; exact hc j v hj⟩
theorem cells19 {W : World} {g : Nat} {t : TypeId} {z0 z1 z2 z3 z4 z5 z6 z7 z8 z9 z10 z11 z12 z13 z14 z15 z16 z17 z18 : Value} (h : W.heap[g]? = some (.cells #[z0, z1, z2, z3, z4, z5, z6, z7, z8, z9, z10, z11, z12, z13, z14, z15, z16, z17, z18] t (0, 0))) : W.cell? ⟨g, 0, none⟩ = some z0 ∧ W.cell? ⟨g, 1, none⟩ = some z1 ∧ W.cell? ⟨g, 2, none⟩ = some z2 ∧ W.cell? ⟨g, 3, none⟩ = some z3 ∧ W.cell? ⟨g, 4, none⟩ = some z4 ∧ W.cell? ⟨g, 5, none⟩ = some z5 ∧ W.cell? ⟨g, 6, none⟩ = some z6 ∧ W.cell? ⟨g, 7, none⟩ = some z7 ∧ W.cell? ⟨g, 8, none⟩ = some z8 ∧ W.cell? ⟨g, 9, none⟩ = some z9 ∧ W.cell? ⟨g, 10, none⟩ = some z10 ∧ W.cell? ⟨g, 11, none⟩ = some z11 ∧ W.cell? ⟨g, 12, none⟩ = some z12 ∧ W.cell? ⟨g, 13, none⟩ = some z13 ∧ W.cell? ⟨g, 14, none⟩ = some z14 ∧ W.cell? ⟨g, 15, none⟩ = some z15 ∧ W.cell? ⟨g, 16, none⟩ = some z16 ∧ W.cell? ⟨g, 17, none⟩ = some z17 ∧ W.cell? ⟨g, 18, none⟩ = some z18 :=
  ⟨cell_of_row W g 0 _ _ _ h, cell_of_row W g 1 _ _ _ h, cell_of_row W g 2 _ _ _ h, cell_of_row W g 3 _ _ _ h, cell_of_row W g 4 _ _ _ h, cell_of_row W g 5 _ _ _ h, cell_of_row W g 6 _ _ _ h, cell_of_row W g 7 _ _ _ h, cell_of_row W g 8 _ _ _ h, cell_of_row W g 9 _ _ _ h, cell_of_row W g 10 _ _ _ h, cell_of_row W g 11 _ _ _ h, cell_of_row W g 12 _ _ _ h, cell_of_row W g 13 _ _ _ h, cell_of_row W g 14 _ _ _ h, cell_of_row W g 15 _ _ _ h, cell_of_row W g 16 _ _ _ h, cell_of_row W g 17 _ _ _ h, cell_of_row W g 18 _ _ _ h⟩
theorem Right_good {x : Event} (h : EvGood x) (h7 : x.Kind = 7) (pA3 : Option Addr) (pc3 : Nat) (F : Foot) (w : World) (hr : RS kRecord w F pA3 x.Cmd.Records.length x.Cmd.Records) :
    Calls Tryd.prog 23 #[.agg #[.int .i64 x.Cmd.Kind, .int .i64 x.Cmd.Pid, .int .i64 x.Cmd.Seq, .slice pA3 x.Cmd.Records.length pc3, .string x.Cmd.Group, .int .i64 x.Cmd.Offset, .int .i64 x.Cmd.Max, .int .i64 x.Cmd.Now, .int .u32 x.Cmd.Sum, .int .i64 x.Cmd.Conf.Segment, .int .i64 x.Cmd.Conf.Keep, .int .i64 x.Cmd.Conf.Age, .int .i64 x.Cmd.Conf.Grace]] w fun e w' => e = .returned (.bool true) ∧ Below w.heap.size w w' := by
  obtain ⟨node, tm, kk, i, rfl, t0, t1, hk, hi⟩ := h.2.2 h7
  exact Right_sub tm (key kk) (val i) pA3 1 pc3 F w hr rfl t0 t1 (key_size kk (by omega)).1 (key_size kk (by omega)).2 (val_size i (by omega))

set_option maxRecDepth 100000 in
set_option maxHeartbeats 4000000 in
theorem GEvents_law (seed n count : Int) (w : World) (hT0 : PowBelow w.heap.size w) :
    Calls Tryd.prog 6 #[.int .i64 seed, .int .i64 n, .int .i64 count] w (LawPost w) := by
  have hT := Lib.hid hT0
  clear hT0
  go_enter Tryd.func6, Tryd.ntmps6
  go_wp2_with fail
  refine (galive_any _).mono ?_
  rintro e w1 ⟨rfl, hb1⟩
  by_cases h3 : 3000 < count
  · go_wp2
    go_ret
    exact ⟨rfl, hb1⟩
  go_wp2_with fail
  refine (Events_any seed n count w.heap.size w1 hb1.size (.inr (hT.out.on hb1))).mono ?_
  rintro e w2 ⟨v, rfl, hM⟩
  have hb2 := hb1.trans (hM.below.mono hb1.size)
  have hgood := Lib.hid (genUpto_good (seed % 4294967296) (clampN n) (clampC count) (clampC_le _))
  obtain ⟨A1, c1, rfl, -, -, r1⟩ := hM.own.reads
  clear hM
  go_wp2_with fail
  refine (RGen_any seed n count w2).mono ?_
  rintro e w3 ⟨v, rfl, hM2⟩
  obtain ⟨A2, c2, rfl, -, -, r2⟩ := hM2.own.reads
  have r3 := r1.below hM2.below
  have hb3 := hb2.trans (hM2.below.mono hb2.size)
  clear hM2 r1 hb1 hb2
  have hL2 : (genUpto (seed % 4294967296) (clampN n) (clampC count)).1.length ≤ 2000 := by rw [genUpto_len]; exact clampC_le _
  generalize (genUpto (seed % 4294967296) (clampN n) (clampC count)).1 = L at hgood r2 r3 hL2 ⊢
  go_wp2_with fail
  go_loopw [10] (fun q wr => ∃ k : Nat, q = .int .i64 k ∧ k ≤ L.length ∧ Below w3.heap.size w3 wr) (fun q _ => L.length - (intOf q).toNat)
  case atStart => exact ⟨0, rfl, Nat.zero_le _, Below.refl _ _⟩
  case round =>
    obtain ⟨k, rfl, hk, hB⟩ := hrel
    by_cases hlt : k < L.length
    · obtain ⟨x, hxk⟩ : ∃ x, L[k]? = some x := ⟨_, List.getElem?_eq_getElem hlt⟩
      have hgx := hgood.out x (List.mem_of_getElem? hxk)
      obtain ⟨ad, pA5, pc5, pA9, pc9, hA0, ha, hc⟩ := load_Event (r3.below hB) hxk
      subst hA0
      have Hx := Lib.hid hxk
      have Hc := Lib.hid hc
      clear hxk hc
      go_wp2_with (first
        | (refine wpList_load_at 52 (.tmp 42) (ad.add (k * 19)) #[.int .i64 x.Kind, .int .i64 x.Node, .int .i64 x.Message, .int .i64 x.Keep, .int .i64 x.What, .slice pA5 x.Fault.length pc5, .int .i64 x.Cmd.Kind, .int .i64 x.Cmd.Pid, .int .i64 x.Cmd.Seq, .slice pA9 x.Cmd.Records.length pc9, .string x.Cmd.Group, .int .i64 x.Cmd.Offset, .int .i64 x.Cmd.Max, .int .i64 x.Cmd.Now, .int .u32 x.Cmd.Sum, .int .i64 x.Cmd.Conf.Segment, .int .i64 x.Cmd.Conf.Keep, .int .i64 x.Cmd.Conf.Age, .int .i64 x.Cmd.Conf.Grace] _ rfl rfl rfl Hc.out Tryd.underlying52 rfl (by kernel_rfl) ?_)
        | (refine wpList_alloc_box 52 (.agg #[.int .i64 0, .int .i64 0, .int .i64 0, .int .i64 0, .int .i64 0, .slice none 0 0, .int .i64 0, .int .i64 0, .int .i64 0, .slice none 0 0, .string ⟨#[]⟩, .int .i64 0, .int .i64 0, .int .i64 0, .int .u32 0, .int .i64 0, .int .i64 0, .int .i64 0, .int .i64 0]) rfl rfl (by kernel_rfl) ?_))
      intro w4 h4 hB4
      obtain ⟨p, hp⟩ : ∃ p, Hid (wr.heap.size = p) := ⟨_, rfl⟩
      rw [hp.out] at h4 ⊢
      have hp4 := (Array.getElem?_eq_some_iff.1 h4).1
      have H4 := Lib.hid h4
      clear h4
      go_wp2_with (refine wpList_store_box 52 (.tmp 11) (.tmp 43) p #[.int .i64 x.Kind, .int .i64 x.Node, .int .i64 x.Message, .int .i64 x.Keep, .int .i64 x.What, .slice pA5 x.Fault.length pc5, .int .i64 x.Cmd.Kind, .int .i64 x.Cmd.Pid, .int .i64 x.Cmd.Seq, .slice pA9 x.Cmd.Records.length pc9, .string x.Cmd.Group, .int .i64 x.Cmd.Offset, .int .i64 x.Cmd.Max, .int .i64 x.Cmd.Now, .int .u32 x.Cmd.Sum, .int .i64 x.Cmd.Conf.Segment, .int .i64 x.Cmd.Conf.Keep, .int .i64 x.Cmd.Conf.Age, .int .i64 x.Cmd.Conf.Grace] 52 #[.int .i64 0, .int .i64 0, .int .i64 0, .int .i64 0, .int .i64 0, .slice none 0 0, .int .i64 0, .int .i64 0, .int .i64 0, .slice none 0 0, .string ⟨#[]⟩, .int .i64 0, .int .i64 0, .int .i64 0, .int .u32 0, .int .i64 0, .int .i64 0, .int .i64 0, .int .i64 0] rfl rfl rfl rfl H4.out (by kernel_rfl) rfl rfl ?_)
      intro w5 h5 hk5
      have hB5 : Below wr.heap.size wr w5 := ⟨hk5.os.trans hB4.os, hk5.tape.trans hB4.tape, hk5.output.trans hB4.output, Nat.le_trans hB4.size hk5.size, fun j hj => (hk5.block j (Nat.lt_of_lt_of_le hj hB4.size) (fun e => by have e2 : j = p := e; have := hp.out; omega)).trans (hB4.block j hj)⟩
      have hB5' := hB.trans (hB5.mono hB.size)
      obtain ⟨bd, qA5, qc5, qA9, qc9, hA0, hbv, hd⟩ := load_Event (r2.below hB5') Hx.out
      subst hA0
      have hp5 := (Array.getElem?_eq_some_iff.1 h5).1
      have Hd := Lib.hid hd
      have H5 := Lib.hid h5
      clear hd h5 hk5 H4 Hc hB4
      go_wp2_with (first
        | (refine wpList_load_at 52 (.tmp 46) (bd.add (k * 19)) #[.int .i64 x.Kind, .int .i64 x.Node, .int .i64 x.Message, .int .i64 x.Keep, .int .i64 x.What, .slice qA5 x.Fault.length qc5, .int .i64 x.Cmd.Kind, .int .i64 x.Cmd.Pid, .int .i64 x.Cmd.Seq, .slice qA9 x.Cmd.Records.length qc9, .string x.Cmd.Group, .int .i64 x.Cmd.Offset, .int .i64 x.Cmd.Max, .int .i64 x.Cmd.Now, .int .u32 x.Cmd.Sum, .int .i64 x.Cmd.Conf.Segment, .int .i64 x.Cmd.Conf.Keep, .int .i64 x.Cmd.Conf.Age, .int .i64 x.Cmd.Conf.Grace] _ rfl rfl rfl Hd.out Tryd.underlying52 rfl (by kernel_rfl) ?_)
        | (refine wpList_alloc_box 52 (.agg #[.int .i64 0, .int .i64 0, .int .i64 0, .int .i64 0, .int .i64 0, .slice none 0 0, .int .i64 0, .int .i64 0, .int .i64 0, .slice none 0 0, .string ⟨#[]⟩, .int .i64 0, .int .i64 0, .int .i64 0, .int .u32 0, .int .i64 0, .int .i64 0, .int .i64 0, .int .i64 0]) rfl rfl (by kernel_rfl) ?_))
      intro w6 h6 hB6
      obtain ⟨q, hq⟩ : ∃ q, Hid (w5.heap.size = q) := ⟨_, rfl⟩
      rw [hq.out] at h6 ⊢
      have H6 := Lib.hid h6
      clear h6
      go_wp2_with (refine wpList_store_box 52 (.tmp 12) (.tmp 47) q #[.int .i64 x.Kind, .int .i64 x.Node, .int .i64 x.Message, .int .i64 x.Keep, .int .i64 x.What, .slice qA5 x.Fault.length qc5, .int .i64 x.Cmd.Kind, .int .i64 x.Cmd.Pid, .int .i64 x.Cmd.Seq, .slice qA9 x.Cmd.Records.length qc9, .string x.Cmd.Group, .int .i64 x.Cmd.Offset, .int .i64 x.Cmd.Max, .int .i64 x.Cmd.Now, .int .u32 x.Cmd.Sum, .int .i64 x.Cmd.Conf.Segment, .int .i64 x.Cmd.Conf.Keep, .int .i64 x.Cmd.Conf.Age, .int .i64 x.Cmd.Conf.Grace] 52 #[.int .i64 0, .int .i64 0, .int .i64 0, .int .i64 0, .int .i64 0, .slice none 0 0, .int .i64 0, .int .i64 0, .int .i64 0, .slice none 0 0, .string ⟨#[]⟩, .int .i64 0, .int .i64 0, .int .i64 0, .int .u32 0, .int .i64 0, .int .i64 0, .int .i64 0, .int .i64 0] rfl rfl rfl rfl H6.out (by kernel_rfl) rfl rfl ?_)
      intro w7 h7 hk7
      have hB7 : Below w5.heap.size w5 w7 := ⟨hk7.os.trans hB6.os, hk7.tape.trans hB6.tape, hk7.output.trans hB6.output, Nat.le_trans hB6.size hk7.size, fun j hj => (hk7.block j (Nat.lt_of_lt_of_le hj hB6.size) (fun e => by have e2 : j = q := e; have := hq.out; omega)).trans (hB6.block j hj)⟩
      have h7p := (hB7.block p hp5).trans H5.out
      have hB8 : Below w3.heap.size w3 w7 := hB5'.trans (hB7.mono hB5'.size)
      have ra := (ha.r9.below hB5).below hB7
      have rb := hbv.r9.below hB7
      have hrl := Nat.le_trans ha.l9 ha.m9
      have hf : x.Fault.length = 0 := by rw [hgx.1]; rfl
      clear ha hbv hB6 hk7 H6 H5 Hd hB5 hB5' hB7
      obtain ⟨k0, k1, k2, k3, k4, k5, k6, k7, k8, k9, k10, k11, k12, k13, k14, k15, k16, k17, k18⟩ := cells19 h7p
      obtain ⟨l0, l1, l2, l3, l4, l5, l6, l7, l8, l9, l10, l11, l12, l13, l14, l15, l16, l17, l18⟩ := cells19 h7
      have HH := Lib.hid (And.intro h7p (And.intro h7 hB8))
      clear h7p h7 hB8
      have hr1 := hgx.2.1
      have Hgx := Lib.hid hgx
      clear hgx
      by_cases h7k : x.Kind = 7
      · have b7 : (x.Kind == 7) = true := by rw [beq_iff_eq]; exact h7k
        have H7 := Lib.hid h7k
        clear h7k
        go_wp2_with fail
        refine (Same_self x.Cmd pA9 qA9 pc9 qc9 _ _ w7 ra rb (by omega)).mono ?_
        rintro e w8 ⟨rfl, hb8⟩
        obtain ⟨h7p, -, hB8⟩ := HH.out
        have h8p := (hb8.block p (Array.getElem?_eq_some_iff.1 h7p).1).trans h7p
        have hB9 := hB8.trans (hb8.mono hB8.size)
        have ra8 := ra.below hb8
        clear k0 k1 k2 k3 k4 k5 k6 k7 k8 k9 k10 k11 k12 k13 k14 k15 k16 k17 k18 l0 l1 l2 l3 l4 l5 l6 l7 l8 l9 l10 l11 l12 l13 l14 l15 l16 l17 l18 h7p hB8 hb8 HH
        obtain ⟨k0, k1, k2, k3, k4, k5, k6, k7, k8, k9, k10, k11, k12, k13, k14, k15, k16, k17, k18⟩ := cells19 h8p
        have HH := Lib.hid (And.intro h8p hB9)
        clear h8p hB9
        go_wp2_with fail
        refine (Right_good Hgx.out H7.out pA9 pc9 _ w8 ra8).mono ?_
        rintro e w9 ⟨rfl, hb9⟩
        obtain ⟨-, hB9⟩ := HH.out
        go_wp2
        go_roundw
        case rel => exact ⟨k + 1, by go_num, by omega, hB9.trans (hb9.mono hB9.size)⟩
        case measure => simp [intOf]; omega
      · have b7 : (x.Kind == 7) = false := by rw [beq_eq_false_iff_ne]; exact h7k
        clear h7k
        go_wp2_with fail
        refine (Same_self x.Cmd pA9 qA9 pc9 qc9 _ _ w7 ra rb (by omega)).mono ?_
        rintro e w8 ⟨rfl, hb8⟩
        obtain ⟨h7p, -, hB8⟩ := HH.out
        have h8p := (hb8.block p (Array.getElem?_eq_some_iff.1 h7p).1).trans h7p
        have hB9 := hB8.trans (hb8.mono hB8.size)
        clear k0 k1 k2 k3 k4 k5 k6 k7 k8 k9 k10 k11 k12 k13 k14 k15 k16 k17 k18 l0 l1 l2 l3 l4 l5 l6 l7 l8 l9 l10 l11 l12 l13 l14 l15 l16 l17 l18 h7p hB8 hb8 HH
        obtain ⟨k0, k1, k2, k3, k4, k5, k6, k7, k8, k9, k10, k11, k12, k13, k14, k15, k16, k17, k18⟩ := cells19 h8p
        have HH := Lib.hid (And.intro h8p hB9)
        clear h8p hB9
        go_wp2
        obtain ⟨-, hB9⟩ := HH.out
        go_roundw
        case rel => exact ⟨k + 1, by go_num, by omega, hB9⟩
        case measure => simp [intOf]; omega
    · obtain rfl : k = L.length := by omega
      go_wp2
      go_ret
      exact ⟨rfl, hb3.trans (hB.mono hb3.size)⟩
theorem PowTab.lt {w : World} (h : PowTab w) (hg : Tryd.prog.globalNamed "internal/strconv.uint64pow10" = some 2) : 2 < w.heap.size := by
  have h1 : w.var? Tryd.prog "internal/strconv.uint64pow10" = some _ := h
  unfold World.var? at h1
  rw [hg] at h1
  simp only [Option.bind_some] at h1
  by_cases hn : 2 < w.heap.size
  · exact hn
  · rw [Array.getElem?_eq_none (by omega)] at h1
    cases h1
end Go.Proofs.YtngmipppgnlkdaaDoor
