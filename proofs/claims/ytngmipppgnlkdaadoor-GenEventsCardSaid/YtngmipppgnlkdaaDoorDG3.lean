/- Events of a lot: the program's submit and event. -/
import Derived.Test.YtngmipppgnlkdaaDoorDG2
import Derived.Test.YtngmipppgnlkdaaDoorDI
set_option linter.unusedVariables false
set_option linter.unusedSimpArgs false
namespace Go.Proofs.YtngmipppgnlkdaaDoor
open Go.RowKit

def key (k : Nat) : ByteArray := ⟨#[107]⟩ ++ dec k
def val (i : Nat) : ByteArray := ⟨#[118]⟩ ++ dec i
/-- A request's event. -/
def subOf (node tm : Int) (k i : Nat) : Event := ⟨7, node, 0, 0, 0, [], ⟨1, 0, 0, [⟨0, tm, key k, val i, false⟩], bytes0, 0, 0, 0, 0, conf0⟩⟩
def submitEv (st n : Int) (i : Nat) : Event × Int :=
  let s1 := lotStep st
  let s2 := lotStep s1
  let s3 := lotStep s2
  (subOf (lotVal s1 n) (lotVal s2 50) (lotVal s3 4).toNat i, s3)
theorem submitEv_eq {st n s1 s2 s3 node tm : Int} {i kk : Nat} (h1 : lotStep st = s1) (h2 : lotStep s1 = s2) (h3 : lotStep s2 = s3) (hn : lotVal s1 n = node) (ht : lotVal s2 50 = tm) (hk : lotVal s3 4 = kk) : submitEv st n i = (subOf node tm kk i, s3) := by
  unfold submitEv
  simp only [h1, h2, h3, hn, ht, hk, Int.toNat_natCast]

set_option maxRecDepth 100000 in
set_option maxHeartbeats 4000000 in
theorem submit_any (g : Nat) (st n : Int) (i : Nat) (hi : i ≤ 2000) (B : Nat) (w : World) (h0 : LotAt 77 w g st) (ok : LotOk st) (hBg : B ≤ g) (hT : i < 100 ∨ PowBelow B w) :
    Calls Tryd.prog 52 #[.pointer (some ⟨g, 0, none⟩), .int .i64 n, .int .i64 i] w (EvPost g (submitEv st n i) w) := by
  obtain ⟨s1, hs1⟩ : ∃ s, Hid (lotStep st = s) := ⟨_, rfl⟩
  obtain ⟨s2, hs2⟩ : ∃ s, Hid (lotStep s1 = s) := ⟨_, rfl⟩
  obtain ⟨s3, hs3⟩ : ∃ s, Hid (lotStep s2 = s) := ⟨_, rfl⟩
  obtain ⟨node, hnode⟩ : ∃ v, Hid (lotVal s1 n = v) := ⟨_, rfl⟩
  obtain ⟨tm, htm⟩ : ∃ v, Hid (lotVal s2 50 = v) := ⟨_, rfl⟩
  obtain ⟨kk, hkk, hk4⟩ : ∃ k : Nat, Hid (lotVal s3 4 = k) ∧ k < 4 := ⟨(lotVal s3 4).toNat, by
    show lotVal s3 4 = _
    have := lotVal_nonneg s3 4; omega, by
    have := lotVal_lt s3 4 (by omega); have := lotVal_nonneg s3 4; omega⟩
  have ok1 : LotOk s1 := by rw [← hs1.out]; exact lotStep_ok _
  have ok2 : LotOk s2 := by rw [← hs2.out]; exact lotStep_ok _
  obtain ⟨r, hr⟩ : ∃ r, Hid (submitEv st n i = r) := ⟨_, rfl⟩
  rw [hr.out]
  go_enter Tryd.func52, Tryd.ntmps52
  go_wp2_with fail
  have hE := EvW.start h0 #[.int .i64 0, .int .i64 0, .int .i64 0, .int .i64 0, .int .i64 0, .slice none 0 0, .int .i64 0, .int .i64 0, .int .i64 0, .slice none 0 0, .string ⟨#[]⟩, .int .i64 0, .int .i64 0, .int .i64 0, .int .u32 0, .int .i64 0, .int .i64 0, .int .i64 0, .int .i64 0]
  generalize w.alloc (.cells #[.int .i64 0, .int .i64 0, .int .i64 0, .int .i64 0, .int .i64 0, .slice none 0 0, .int .i64 0, .int .i64 0, .int .i64 0, .slice none 0 0, .string ⟨#[]⟩, .int .i64 0, .int .i64 0, .int .i64 0, .int .u32 0, .int .i64 0, .int .i64 0, .int .i64 0, .int .i64 0] 52) = w1 at hE ⊢
  generalize w.heap.size = b at hE ⊢
  refine (Next_any g st n w1 hE.lot ok).mono ?_
  rintro e w2 ⟨rfl, hL, hK, -⟩
  rw [hs1.out] at hL
  rw [hs1.out, hnode.out]
  have hE2 := hE.next hL hK
  clear hE hL hK
  have hgE := hE2.lot.lt
  have hbE := hE2.lt
  go_wp2_with (refine wpList_alloc_box 52 (.agg #[.int .i64 0, .int .i64 0, .int .i64 0, .int .i64 0, .int .i64 0, .slice none 0 0, .int .i64 0, .int .i64 0, .int .i64 0, .slice none 0 0, .string ⟨#[]⟩, .int .i64 0, .int .i64 0, .int .i64 0, .int .u32 0, .int .i64 0, .int .i64 0, .int .i64 0, .int .i64 0]) rfl rfl (by kernel_rfl) ?_)
  intro w3 hc3 hB3
  have hE3 := hE2.below hB3
  clear hB3 hE2
  generalize w2.heap.size = c at hc3 hgE hbE ⊢
  have HB := Lib.hid hc3
  clear hc3
  go_wp2_with (refine wpList_store_box 52 (.tmp 7) (.tmp 12) c #[.int .i64 7, .int .i64 node, .int .i64 0, .int .i64 0, .int .i64 0, .slice none 0 0, .int .i64 0, .int .i64 0, .int .i64 0, .slice none 0 0, .string ⟨#[]⟩, .int .i64 0, .int .i64 0, .int .i64 0, .int .u32 0, .int .i64 0, .int .i64 0, .int .i64 0, .int .i64 0] 52 #[.int .i64 0, .int .i64 0, .int .i64 0, .int .i64 0, .int .i64 0, .slice none 0 0, .int .i64 0, .int .i64 0, .int .i64 0, .slice none 0 0, .string ⟨#[]⟩, .int .i64 0, .int .i64 0, .int .i64 0, .int .u32 0, .int .i64 0, .int .i64 0, .int .i64 0, .int .i64 0] rfl rfl rfl rfl HB.out (by kernel_rfl) rfl rfl ?_)
  intro w4 hc4 hk4'
  have hE4 : EvW w g b s1 #[.int .i64 0, .int .i64 0, .int .i64 0, .int .i64 0, .int .i64 0, .slice none 0 0, .int .i64 0, .int .i64 0, .int .i64 0, .slice none 0 0, .string ⟨#[]⟩, .int .i64 0, .int .i64 0, .int .i64 0, .int .u32 0, .int .i64 0, .int .i64 0, .int .i64 0, .int .i64 0] w4 := ⟨hE3.lot.keeps hk4' (fun hk => by have : g = c := hk; omega), (hk4'.block b hE3.lt (fun hk => by have : b = c := hk; omega)).trans hE3.box, hE3.keep.step hk4' fun k hk hlt => by have : k = c := hk; have := hE3.own; omega, hE3.own, hE3.ne⟩
  clear HB hk4' hE3
  have HC := Lib.hid hc4
  clear hc4
  go_wp2_with fail
  refine (Next_any g s1 50 w4 hE4.lot ok1).mono ?_
  rintro e w5 ⟨rfl, hL, hK, -⟩
  rw [hs2.out] at hL
  rw [hs2.out, htm.out]
  have hE5 := hE4.next hL hK
  have hc5 := (hK.block c (Array.getElem?_eq_some_iff.1 HC.out).1 (by omega)).trans HC.out
  have HC := Lib.hid hc5
  have hgE5 := hE5.lot.lt
  have hbE5 := hE5.lt
  have hcE5 := (Array.getElem?_eq_some_iff.1 hc5).1
  clear hE4 hL hK hc5
  go_wp2_with fail
  have hE6 := hE5.below ((Below.refl w5.heap.size w5).alloc (Nat.le_refl _) (.cells #[.int .i64 0, .int .i64 tm, .string ⟨#[]⟩, .string ⟨#[]⟩, .bool false] 84))
  have hc6 : (w5.alloc (.cells #[.int .i64 0, .int .i64 tm, .string ⟨#[]⟩, .string ⟨#[]⟩, .bool false] 84)).heap[c]? = _ := (Below.heap_alloc _ _ _ hcE5).trans HC.out
  have hd6 : (w5.alloc (.cells #[.int .i64 0, .int .i64 tm, .string ⟨#[]⟩, .string ⟨#[]⟩, .bool false] 84)).heap[w5.heap.size]? = some (.cells #[.int .i64 0, .int .i64 tm, .string ⟨#[]⟩, .string ⟨#[]⟩, .bool false] 84 (0, 0)) := heap_alloc_new w5 _
  generalize w5.alloc (.cells #[.int .i64 0, .int .i64 tm, .string ⟨#[]⟩, .string ⟨#[]⟩, .bool false] 84) = w6 at hE6 hc6 hd6 ⊢
  generalize w5.heap.size = d at hd6 hgE5 hbE5 hcE5 ⊢
  clear HC hE5
  have hd6s := (Array.getElem?_eq_some_iff.1 hd6).1
  have hc6s := (Array.getElem?_eq_some_iff.1 hc6).1
  have HCD := Lib.hid (And.intro hc6 hd6)
  clear hc6 hd6
  refine (Next_any g s2 4 w6 hE6.lot ok2).mono ?_
  rintro e w7 ⟨rfl, hL, hK, -⟩
  rw [hs3.out] at hL
  rw [hs3.out, hkk.out]
  have hE_7 := hE6.next hL hK
  have hc7 := (hK.block c hc6s (by omega)).trans HCD.out.1
  have hd7 := (hK.block d hd6s (by omega)).trans HCD.out.2
  clear HCD hE6 hL hK hc6s hd6s
  have hd7s := (Array.getElem?_eq_some_iff.1 hd7).1
  have hc7s := (Array.getElem?_eq_some_iff.1 hc7).1
  have HCD := Lib.hid (And.intro hc7 hd7)
  clear hc7 hd7
  go_wp2_with fail
  refine (itoa_any kk (by omega) w7 (.inl (by omega))).mono ?_
  rintro e w8 ⟨rfl, hB8⟩
  have hE8 := hE_7.below hB8
  have hc8 := (hB8.block c hc7s).trans HCD.out.1
  have hd8 := (hB8.block d hd7s).trans HCD.out.2
  have hd8s := (Array.getElem?_eq_some_iff.1 hd8).1
  have hc8s := (Array.getElem?_eq_some_iff.1 hc8).1
  have pd2 : w8.cell? ⟨d, 2, none⟩ = some (.string ⟨#[]⟩) := cell_of_row w8 d 2 _ _ _ hd8
  have pf2 : w8.frozen? ⟨d, 2, none⟩ = false := frozen_of_row w8 d 2 _ _ hd8
  clear HCD hE_7 hB8 hc7s hd7s
  have HCD := Lib.hid (And.intro hc8 hd8)
  clear hc8 hd8
  have hks := dec_size kk
  have hisz := dec_size i
  have hb9 := heap_setCell_same w8 d 2 _ _ (.string (⟨#[107]⟩ ++ dec kk)) HCD.out.2
  have hk9 : Keeps (fun k => k = d) w8 (w8.setCell ⟨d, 2, none⟩ (.string (⟨#[107]⟩ ++ dec kk))) := (Keeps.refl (fun k => k = d) w8).setCell (p := ⟨d, 2, none⟩) (fun _ => rfl) _
  have hE9 : EvW w g b s3 #[.int .i64 0, .int .i64 0, .int .i64 0, .int .i64 0, .int .i64 0, .slice none 0 0, .int .i64 0, .int .i64 0, .int .i64 0, .slice none 0 0, .string ⟨#[]⟩, .int .i64 0, .int .i64 0, .int .i64 0, .int .u32 0, .int .i64 0, .int .i64 0, .int .i64 0, .int .i64 0] (w8.setCell ⟨d, 2, none⟩ (.string (⟨#[107]⟩ ++ dec kk))) := ⟨hE8.lot.keeps hk9 (fun hk => by have : g = d := hk; omega), (hk9.block b hE8.lt (fun hk => by have : b = d := hk; omega)).trans hE8.box, hE8.keep.step hk9 fun k hk hlt => by have : k = d := hk; have := hE8.own; omega, hE8.own, hE8.ne⟩
  have hc9 := (hk9.block c hc8s (fun hk => by have : c = d := hk; omega)).trans HCD.out.1
  have HH := Lib.hid (And.intro hE9 (And.intro hc9 hb9))
  clear hb9 hk9 hE9 hc9 HCD hE8
  go_wp2_with fail
  obtain ⟨hE9, hc9, hb9⟩ := HH.out
  have hd9 : (w8.setCell ⟨d, 2, none⟩ (.string (⟨#[107]⟩ ++ dec kk))).heap[d]? = some (.cells #[.int .i64 0, .int .i64 tm, .string (⟨#[107]⟩ ++ dec kk), .string ⟨#[]⟩, .bool false] 84 (0, 0)) := hb9.trans rfl
  clear HH hb9 pd2 pf2
  generalize w8.setCell ⟨d, 2, none⟩ (.string (⟨#[107]⟩ ++ dec kk)) = w9 at hE9 hc9 hd9 ⊢
  have hT9 : i < 100 ∨ PowTab w9 := hT.imp id fun h => (h.keeps (by have := hE9.own; have := h0.lt; omega) hBg hE9.keep).here
  refine (itoa_any i (by omega) w9 hT9).mono ?_
  rintro e w10 ⟨rfl, hB10⟩
  have hd9s := (Array.getElem?_eq_some_iff.1 hd9).1
  have hc9s := (Array.getElem?_eq_some_iff.1 hc9).1
  have hE10 := hE9.below hB10
  have hc10 := (hB10.block c hc9s).trans hc9
  have hd10 := (hB10.block d hd9s).trans hd9
  clear hE9 hc9 hd9 hB10 hT9 hd8s hc8s hd9s hc9s
  have hd10s := (Array.getElem?_eq_some_iff.1 hd10).1
  have hc10s := (Array.getElem?_eq_some_iff.1 hc10).1
  have pd3 : w10.cell? ⟨d, 3, none⟩ = some (.string ⟨#[]⟩) := cell_of_row w10 d 3 _ _ _ hd10
  have pf3 : w10.frozen? ⟨d, 3, none⟩ = false := frozen_of_row w10 d 3 _ _ hd10
  have hb11 := heap_setCell_same w10 d 3 _ _ (.string (⟨#[118]⟩ ++ dec i)) hd10
  have hk11 : Keeps (fun k => k = d) w10 (w10.setCell ⟨d, 3, none⟩ (.string (⟨#[118]⟩ ++ dec i))) := (Keeps.refl (fun k => k = d) w10).setCell (p := ⟨d, 3, none⟩) (fun _ => rfl) _
  have hE11 : EvW w g b s3 #[.int .i64 0, .int .i64 0, .int .i64 0, .int .i64 0, .int .i64 0, .slice none 0 0, .int .i64 0, .int .i64 0, .int .i64 0, .slice none 0 0, .string ⟨#[]⟩, .int .i64 0, .int .i64 0, .int .i64 0, .int .u32 0, .int .i64 0, .int .i64 0, .int .i64 0, .int .i64 0] (w10.setCell ⟨d, 3, none⟩ (.string (⟨#[118]⟩ ++ dec i))) := ⟨hE10.lot.keeps hk11 (fun hk => by have : g = d := hk; omega), (hk11.block b hE10.lt (fun hk => by have : b = d := hk; omega)).trans hE10.box, hE10.keep.step hk11 fun k hk hlt => by have : k = d := hk; have := hE10.own; omega, hE10.own, hE10.ne⟩
  have hc11 := (hk11.block c hc10s (fun hk => by have : c = d := hk; omega)).trans hc10
  have hd11 : (w10.setCell ⟨d, 3, none⟩ (.string (⟨#[118]⟩ ++ dec i))).heap[d]? = some (.cells #[.int .i64 0, .int .i64 tm, .string (⟨#[107]⟩ ++ dec kk), .string (⟨#[118]⟩ ++ dec i), .bool false] 84 (0, 0)) := hb11.trans rfl
  have hs11 : (w10.setCell ⟨d, 3, none⟩ (.string (⟨#[118]⟩ ++ dec i))).heap.size = w10.heap.size := World.size_setCell ..
  have hE12 := hE11.below ((Below.refl _ _).alloc (Nat.le_refl _) (.cells #[.int .i64 0, .int .i64 tm, .string (⟨#[107]⟩ ++ dec kk), .string (⟨#[118]⟩ ++ dec i), .bool false] 84))
  have hc12 := (Below.heap_alloc (w10.setCell ⟨d, 3, none⟩ (.string (⟨#[118]⟩ ++ dec i))) (.cells #[.int .i64 0, .int .i64 tm, .string (⟨#[107]⟩ ++ dec kk), .string (⟨#[118]⟩ ++ dec i), .bool false] 84) c (by rw [hs11]; exact hc10s)).trans hc11
  have hq12 := heap_alloc_new (w10.setCell ⟨d, 3, none⟩ (.string (⟨#[118]⟩ ++ dec i))) (.cells #[.int .i64 0, .int .i64 tm, .string (⟨#[107]⟩ ++ dec kk), .string (⟨#[118]⟩ ++ dec i), .bool false] 84)
  rw [hs11] at hq12
  have HH := Lib.hid (And.intro hE12 (And.intro hc12 (And.intro hq12 hd11)))
  have hgE10 := hE10.lot.lt
  clear hb11 hk11 hE11 hc11 hd11 hE10 hc10 hd10 hE12 hc12 hq12 hs11
  go_wp2_with (first
    | (refine wpList_load_row rfl 84 (.tmp 8) rfl d rfl 84 #[.int .i64 0, .int .i64 tm, .string (⟨#[107]⟩ ++ dec kk), .string (⟨#[118]⟩ ++ dec i), .bool false] (0, 0) _ HH.out.2.2.2 Tryd.underlying84 rfl (by kernel_rfl) ?_)
    | (refine wpList_store_part 50 (.tmp 28) (.tmp 27) c 6 #[.int .i64 1, .int .i64 0, .int .i64 0, .slice (some ⟨w10.heap.size, 0, none⟩) 1 1, .string ⟨#[]⟩, .int .i64 0, .int .i64 0, .int .i64 0, .int .u32 0, .int .i64 0, .int .i64 0, .int .i64 0, .int .i64 0] 52 #[.int .i64 7, .int .i64 node, .int .i64 0, .int .i64 0, .int .i64 0, .slice none 0 0, .int .i64 0, .int .i64 0, .int .i64 0, .slice none 0 0, .string ⟨#[]⟩, .int .i64 0, .int .i64 0, .int .i64 0, .int .u32 0, .int .i64 0, .int .i64 0, .int .i64 0, .int .i64 0] #[.int .i64 7, .int .i64 node, .int .i64 0, .int .i64 0, .int .i64 0, .slice none 0 0, .int .i64 1, .int .i64 0, .int .i64 0, .slice (some ⟨w10.heap.size, 0, none⟩) 1 1, .string ⟨#[]⟩, .int .i64 0, .int .i64 0, .int .i64 0, .int .u32 0, .int .i64 0, .int .i64 0, .int .i64 0, .int .i64 0] rfl rfl rfl rfl HH.out.2.1 (by kernel_rfl) (by simp) rfl rfl ?_))
  obtain ⟨hE12, hc12, hq12, -⟩ := HH.out
  generalize (w10.setCell ⟨d, 3, none⟩ (.string (⟨#[118]⟩ ++ dec i))).alloc (.cells #[.int .i64 0, .int .i64 tm, .string (⟨#[107]⟩ ++ dec kk), .string (⟨#[118]⟩ ++ dec i), .bool false] 84) = w12 at hE12 hc12 hq12 ⊢
  clear HH pd3 pf3
  generalize w10.heap.size = q at hq12 hd10s hc10s hgE10 ⊢
  have HBD := Lib.hid (And.intro hbE5 hd10s)
  intro w13 hc13 hk13
  have hE13 : EvW w g b s3 #[.int .i64 0, .int .i64 0, .int .i64 0, .int .i64 0, .int .i64 0, .slice none 0 0, .int .i64 0, .int .i64 0, .int .i64 0, .slice none 0 0, .string ⟨#[]⟩, .int .i64 0, .int .i64 0, .int .i64 0, .int .u32 0, .int .i64 0, .int .i64 0, .int .i64 0, .int .i64 0] w13 := ⟨hE12.lot.keeps hk13 (fun hk => by have : g = c := hk; omega), (hk13.block b hE12.lt (fun hk => by have : b = c := hk; omega)).trans hE12.box, hE12.keep.step hk13 fun k hk hlt => by have : k = c := hk; have := hE12.own; omega, hE12.own, hE12.ne⟩
  have hq13 := (hk13.block q (Array.getElem?_eq_some_iff.1 hq12).1 (fun hk => by have : q = c := hk; omega)).trans hq12
  clear hE12 hc12 hq12 hk13
  have HH := Lib.hid (And.intro hE13 (And.intro hc13 hq13))
  clear hE13 hc13 hq13
  go_wp2_with (first
    | (refine wpList_load_row rfl 52 (.tmp 7) rfl c rfl 52 #[.int .i64 7, .int .i64 node, .int .i64 0, .int .i64 0, .int .i64 0, .slice none 0 0, .int .i64 1, .int .i64 0, .int .i64 0, .slice (some ⟨q, 0, none⟩) 1 1, .string ⟨#[]⟩, .int .i64 0, .int .i64 0, .int .i64 0, .int .u32 0, .int .i64 0, .int .i64 0, .int .i64 0, .int .i64 0] (0, 0) _ HH.out.2.1 Tryd.underlying52 rfl (by kernel_rfl) ?_)
    | (refine wpList_store_box 52 (.tmp 6) (.tmp 29) b #[.int .i64 7, .int .i64 node, .int .i64 0, .int .i64 0, .int .i64 0, .slice none 0 0, .int .i64 1, .int .i64 0, .int .i64 0, .slice (some ⟨q, 0, none⟩) 1 1, .string ⟨#[]⟩, .int .i64 0, .int .i64 0, .int .i64 0, .int .u32 0, .int .i64 0, .int .i64 0, .int .i64 0, .int .i64 0] 52 #[.int .i64 0, .int .i64 0, .int .i64 0, .int .i64 0, .int .i64 0, .slice none 0 0, .int .i64 0, .int .i64 0, .int .i64 0, .slice none 0 0, .string ⟨#[]⟩, .int .i64 0, .int .i64 0, .int .i64 0, .int .u32 0, .int .i64 0, .int .i64 0, .int .i64 0, .int .i64 0] rfl rfl rfl rfl HH.out.1.box (by kernel_rfl) rfl rfl ?_))
  obtain ⟨hE13, hc13, hq13⟩ := HH.out
  clear HH
  intro w14 hw1 hw2
  have hE14 := hE13.store hw1 hw2
  have hq14 := (hw2.block q (Array.getElem?_eq_some_iff.1 hq13).1 (fun hk => by have : q = b := hk; omega)).trans hq13
  have HW := Lib.hid (And.intro hw1 (And.intro hE14 hq14))
  clear hw1 hw2 hE14 hq14 hE13 hc13 hq13
  go_wp2
  obtain ⟨hw1, hE14, hq14⟩ := HW.out
  refine bodyPost_ret (v := .agg #[.int .i64 7, .int .i64 node, .int .i64 0, .int .i64 0, .int .i64 0, .slice none 0 0, .int .i64 1, .int .i64 0, .int .i64 0, .slice (some ⟨q, 0, none⟩) 1 1, .string ⟨#[]⟩, .int .i64 0, .int .i64 0, .int .i64 0, .int .u32 0, .int .i64 0, .int .i64 0, .int .i64 0, .int .i64 0]) (results_box Tryd.results52 rfl hw1 Tryd.underlying52 rfl (by kernel_rfl)) rfl ?_
  rw [← hr.out, submitEv_eq hs1.out hs2.out hs3.out hnode.out htm.out hkk.out]
  have hqs := (Array.getElem?_eq_some_iff.1 hq14).1
  have hown := hE14.own
  have hq0 : w.heap.size ≤ q := Nat.le_trans hown (Nat.le_of_lt (Nat.lt_trans HBD.out.1 HBD.out.2))
  refine ⟨none, 0, some ⟨q, 0, none⟩, 1, rfl, ⟨Nat.le_refl _, by omega, RS.nil, Nat.le_refl _, by omega, ⟨rfl, _, Elems.single (K := kRecord) rfl, fun _ => ⟨⟨q, 0, none⟩, rfl, ⟨hq0, hqs⟩, fun j u hu => ?_⟩⟩⟩, hE14.lot, hE14.keep⟩
  rw [Addr.add_lit, Nat.zero_add, cell_of_row w14 q j _ _ _ hq14]
  simpa [key, val] using hu
end Go.Proofs.YtngmipppgnlkdaaDoor
