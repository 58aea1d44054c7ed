/- Events of a lot: the program's. -/
import Derived.Test.YtngmipppgnlkdaaDoorDG1
import Derived.Test.YtngmipppgnlkdaaDoorDB
import Derived.Test.YtngmipppgnlkdaaDoorDShelf
set_option linter.unusedVariables false
set_option linter.unusedSimpArgs false
namespace Go.Proofs.YtngmipppgnlkdaaDoor
open Go.RowKit

theorem box19 {W : World} {g : Nat} {t : TypeId} {z0 z1 z2 z3 z4 z5 z6 z7 z8 z9 z10 z11 z12 z13 z14 z15 z16 z17 z18 : Value} (h : W.heap[g]? = some (.cells #[z0, z1, z2, z3, z4, z5, z6, z7, z8, z9, z10, z11, z12, z13, z14, z15, z16, z17, z18] t (0, 0))) : W.cell? ⟨g, 0, none⟩ = some z0 ∧ W.cell? ⟨g, 1, none⟩ = some z1 ∧ W.cell? ⟨g, 2, none⟩ = some z2 ∧ W.cell? ⟨g, 3, none⟩ = some z3 ∧ W.cell? ⟨g, 4, none⟩ = some z4 ∧ W.cell? ⟨g, 5, none⟩ = some z5 ∧ W.cell? ⟨g, 6, none⟩ = some z6 ∧ W.cell? ⟨g, 7, none⟩ = some z7 ∧ W.cell? ⟨g, 8, none⟩ = some z8 ∧ W.cell? ⟨g, 9, none⟩ = some z9 ∧ W.cell? ⟨g, 10, none⟩ = some z10 ∧ W.cell? ⟨g, 11, none⟩ = some z11 ∧ W.cell? ⟨g, 12, none⟩ = some z12 ∧ W.cell? ⟨g, 13, none⟩ = some z13 ∧ W.cell? ⟨g, 14, none⟩ = some z14 ∧ W.cell? ⟨g, 15, none⟩ = some z15 ∧ W.cell? ⟨g, 16, none⟩ = some z16 ∧ W.cell? ⟨g, 17, none⟩ = some z17 ∧ W.cell? ⟨g, 18, none⟩ = some z18 ∧ W.frozen? ⟨g, 0, none⟩ = false ∧ W.frozen? ⟨g, 1, none⟩ = false ∧ W.frozen? ⟨g, 2, none⟩ = false ∧ W.frozen? ⟨g, 3, none⟩ = false ∧ W.frozen? ⟨g, 4, none⟩ = false ∧ W.frozen? ⟨g, 5, none⟩ = false ∧ W.frozen? ⟨g, 6, none⟩ = false ∧ W.frozen? ⟨g, 7, none⟩ = false ∧ W.frozen? ⟨g, 8, none⟩ = false ∧ W.frozen? ⟨g, 9, none⟩ = false ∧ W.frozen? ⟨g, 10, none⟩ = false ∧ W.frozen? ⟨g, 11, none⟩ = false ∧ W.frozen? ⟨g, 12, none⟩ = false ∧ W.frozen? ⟨g, 13, none⟩ = false ∧ W.frozen? ⟨g, 14, none⟩ = false ∧ W.frozen? ⟨g, 15, none⟩ = false ∧ W.frozen? ⟨g, 16, none⟩ = false ∧ W.frozen? ⟨g, 17, none⟩ = false ∧ W.frozen? ⟨g, 18, none⟩ = false :=
  ⟨cell_of_row W g 0 _ _ _ h, cell_of_row W g 1 _ _ _ h, cell_of_row W g 2 _ _ _ h, cell_of_row W g 3 _ _ _ h, cell_of_row W g 4 _ _ _ h, cell_of_row W g 5 _ _ _ h, cell_of_row W g 6 _ _ _ h, cell_of_row W g 7 _ _ _ h, cell_of_row W g 8 _ _ _ h, cell_of_row W g 9 _ _ _ h, cell_of_row W g 10 _ _ _ h, cell_of_row W g 11 _ _ _ h, cell_of_row W g 12 _ _ _ h, cell_of_row W g 13 _ _ _ h, cell_of_row W g 14 _ _ _ h, cell_of_row W g 15 _ _ _ h, cell_of_row W g 16 _ _ _ h, cell_of_row W g 17 _ _ _ h, cell_of_row W g 18 _ _ _ h, frozen_of_row W g 0 _ _ h, frozen_of_row W g 1 _ _ h, frozen_of_row W g 2 _ _ h, frozen_of_row W g 3 _ _ h, frozen_of_row W g 4 _ _ h, frozen_of_row W g 5 _ _ h, frozen_of_row W g 6 _ _ h, frozen_of_row W g 7 _ _ h, frozen_of_row W g 8 _ _ h, frozen_of_row W g 9 _ _ h, frozen_of_row W g 10 _ _ h, frozen_of_row W g 11 _ _ h, frozen_of_row W g 12 _ _ h, frozen_of_row W g 13 _ _ h, frozen_of_row W g 14 _ _ h, frozen_of_row W g 15 _ _ h, frozen_of_row W g 16 _ _ h, frozen_of_row W g 17 _ _ h, frozen_of_row W g 18 _ _ h⟩

/-- What an event's slices are. -/
structure EvAt (W : World) (F : Foot) (x : Event) (A5 : Option Addr) (c5 : Nat) (A9 : Option Addr) (c9 : Nat) : Prop where
  l5 : x.Fault.length ≤ c5
  m5 : c5 ≤ 9223372036854775807
  r5 : RS (kInt .i64) W F A5 x.Fault.length x.Fault
  l9 : x.Cmd.Records.length ≤ c9
  m9 : c9 ≤ 9223372036854775807
  r9 : RS kRecord W F A9 x.Cmd.Records.length x.Cmd.Records
theorem EvAt.rep {W : World} {F : Foot} {x : Event} {A5 : Option Addr} {c5 : Nat} {A9 : Option Addr} {c9 : Nat} (h : EvAt W F x A5 c5 A9 c9) : kEvent.rep W F x [.int .i64 x.Kind, .int .i64 x.Node, .int .i64 x.Message, .int .i64 x.Keep, .int .i64 x.What, .slice A5 x.Fault.length c5, .int .i64 x.Cmd.Kind, .int .i64 x.Cmd.Pid, .int .i64 x.Cmd.Seq, .slice A9 x.Cmd.Records.length c9, .string x.Cmd.Group, .int .i64 x.Cmd.Offset, .int .i64 x.Cmd.Max, .int .i64 x.Cmd.Now, .int .u32 x.Cmd.Sum, .int .i64 x.Cmd.Conf.Segment, .int .i64 x.Cmd.Conf.Keep, .int .i64 x.Cmd.Conf.Age, .int .i64 x.Cmd.Conf.Grace] := ⟨A5, c5, A9, c9, rfl, h.l5, h.m5, h.r5, h.l9, h.m9, h.r9⟩
theorem EvAt.keep {W W' : World} {F : Foot} {x : Event} {A5 : Option Addr} {c5 : Nat} {A9 : Option Addr} {c9 : Nat} (h : EvAt W F x A5 c5 A9 c9) (hk : ∀ k, F k → k < W.heap.size → W'.heap[k]? = W.heap[k]?) : EvAt W' F x A5 c5 A9 c9 :=
  ⟨h.l5, h.m5, h.r5.keep hk, h.l9, h.m9, h.r9.keep hk⟩
theorem EvAt.mono {W : World} {F G : Foot} {x : Event} {A5 : Option Addr} {c5 : Nat} {A9 : Option Addr} {c9 : Nat} (h : EvAt W F x A5 c5 A9 c9) (hk : ∀ k, F k → G k) : EvAt W G x A5 c5 A9 c9 :=
  ⟨h.l5, h.m5, h.r5.mono hk, h.l9, h.m9, h.r9.mono hk⟩
/-- An event of a lot at block g: what a call hands back. -/
def EvPost (g : Nat) (r : Event × Int) (w : World) (e : Ending) (w' : World) : Prop :=
  ∃ (A5 : Option Addr) (c5 : Nat) (A9 : Option Addr) (c9 : Nat), e = .returned (.agg #[.int .i64 r.1.Kind, .int .i64 r.1.Node, .int .i64 r.1.Message, .int .i64 r.1.Keep, .int .i64 r.1.What, .slice A5 r.1.Fault.length c5, .int .i64 r.1.Cmd.Kind, .int .i64 r.1.Cmd.Pid, .int .i64 r.1.Cmd.Seq, .slice A9 r.1.Cmd.Records.length c9, .string r.1.Cmd.Group, .int .i64 r.1.Cmd.Offset, .int .i64 r.1.Cmd.Max, .int .i64 r.1.Cmd.Now, .int .u32 r.1.Cmd.Sum, .int .i64 r.1.Cmd.Conf.Segment, .int .i64 r.1.Cmd.Conf.Keep, .int .i64 r.1.Cmd.Conf.Age, .int .i64 r.1.Cmd.Conf.Grace]) ∧ EvAt w' (New w w') r.1 A5 c5 A9 c9 ∧ LotAt 77 w' g r.2 ∧ Keeps (fun k => k = g) w w'

/-- A call's world: a lot of state st at block g, cells cs in the call's own block b; the rest as in w. -/
structure EvW (w : World) (g b : Nat) (st : Int) (cs : Array Value) (wi : World) : Prop where
  lot : LotAt 77 wi g st
  box : wi.heap[b]? = some (.cells cs 52 (0, 0))
  keep : Keeps (fun k => k = g) w wi
  own : w.heap.size ≤ b
  ne : b ≠ g
section
variable {w wi wj : World} {g b : Nat} {st st' : Int} {cs cs' : Array Value}
theorem EvW.start (h : LotAt 77 w g st) (cs : Array Value) : EvW w g w.heap.size st cs (w.alloc (.cells cs 52)) :=
  ⟨h.below ((Below.refl _ _).alloc (Nat.le_refl _) _), heap_alloc_new w _, (Keeps.refl _ w).alloc _, Nat.le_refl _, by have := h.lt; omega⟩
theorem EvW.lt (h : EvW w g b st cs wi) : b < wi.heap.size := (Array.getElem?_eq_some_iff.1 h.box).1
theorem EvW.next (h : EvW w g b st cs wi) (hl : LotAt 77 wj g st') (hk : Keeps (fun k => k = g) wi wj) : EvW w g b st' cs wj :=
  ⟨hl, (hk.block b h.lt h.ne).trans h.box, h.keep.trans hk, h.own, h.ne⟩
theorem EvW.store (h : EvW w g b st cs wi) (hb : wj.heap[b]? = some (.cells cs' 52 (0, 0))) (hk : Keeps (fun k => k = b) wi wj) : EvW w g b st cs' wj :=
  ⟨h.lot.keeps hk (Ne.symm h.ne), hb, h.keep.step hk fun k hk hlt => by have : k = b := hk; have := h.own; omega, h.own, h.ne⟩
theorem EvW.below (h : EvW w g b st cs wi) (hb : Below wi.heap.size wi wj) : EvW w g b st cs wj :=
  ⟨h.lot.below hb, (hb.block b h.lt).trans h.box, h.keep.then_below hb, h.own, h.ne⟩
end

def bytes0 : ByteArray := ⟨#[]⟩
def conf0 : Conf := ⟨0, 0, 0, 0⟩
def command0 : Command := ⟨0, 0, 0, [], bytes0, 0, 0, 0, 0, conf0⟩
/-- An event of a kind: node, message, what. -/
def evOf (k node msg what : Int) : Event := ⟨k, node, msg, 0, what, [], command0⟩
theorem EvW.post {w wi : World} {g b : Nat} {k node msg what st : Int} {cs : Array Value} (h : EvW w g b st cs wi) : EvPost g (evOf k node msg what, st) w
    (.returned (.agg #[.int .i64 k, .int .i64 node, .int .i64 msg, .int .i64 0, .int .i64 what, .slice none 0 0, .int .i64 0, .int .i64 0, .int .i64 0, .slice none 0 0, .string ⟨#[]⟩, .int .i64 0, .int .i64 0, .int .i64 0, .int .u32 0, .int .i64 0, .int .i64 0, .int .i64 0, .int .i64 0])) wi :=
  ⟨none, 0, none, 0, rfl, ⟨Nat.le_refl _, by omega, RS.nil, Nat.le_refl _, by omega, RS.nil⟩, h.lot, h.keep⟩
def otherEv (st n : Int) : Event × Int :=
  let s1 := lotStep st
  let o := lotVal s1 4
  let s2 := lotStep s1
  if o = 0 then (evOf 5 (lotVal s2 n) 0 0, s2)
  else if o = 1 then (evOf 6 (lotVal s2 n) 0 0, s2)
  else if o = 2 then (evOf 10 (lotVal s2 n) 0 (lotVal (lotStep s2) 4), lotStep s2)
  else (evOf 4 0 (lotVal s2 9) 0, s2)

set_option maxRecDepth 100000 in
set_option maxHeartbeats 4000000 in
theorem other_any (g : Nat) (st n : Int) (w : World) (h : LotAt 77 w g st) (ok : LotOk st) :
    Calls Tryd.prog 53 #[.pointer (some ⟨g, 0, none⟩), .int .i64 n] w (EvPost g (otherEv st n) w) := by
  obtain ⟨s1, hs1⟩ : ∃ s, Hid (lotStep st = s) := ⟨_, rfl⟩
  obtain ⟨s2, hs2⟩ : ∃ s, Hid (lotStep s1 = s) := ⟨_, rfl⟩
  obtain ⟨s3, hs3⟩ : ∃ s, Hid (lotStep s2 = s) := ⟨_, rfl⟩
  obtain ⟨o, ho⟩ : ∃ o, Hid (lotVal s1 4 = o) := ⟨_, rfl⟩
  have ok1 : LotOk s1 := by rw [← hs1.out]; exact lotStep_ok _
  have ok2 : LotOk s2 := by rw [← hs2.out]; exact lotStep_ok _
  obtain ⟨v, hv⟩ : ∃ v, Hid (lotVal s2 n = v) := ⟨_, rfl⟩
  obtain ⟨v9, hv9⟩ : ∃ v, Hid (lotVal s2 9 = v) := ⟨_, rfl⟩
  obtain ⟨u, hu⟩ : ∃ v, Hid (lotVal s3 4 = v) := ⟨_, rfl⟩
  have Hev : Hid (otherEv st n = if o = 0 then (evOf 5 v 0 0, s2) else if o = 1 then (evOf 6 v 0 0, s2) else if o = 2 then (evOf 10 v 0 u, s3) else (evOf 4 0 v9 0, s2)) := by
    show otherEv st n = _
    unfold otherEv
    simp only [hs1.out, hs2.out, hs3.out, ho.out, hv.out, hv9.out, hu.out]
  obtain ⟨r, hr⟩ : ∃ r, Hid (otherEv st n = r) := ⟨_, rfl⟩
  rw [hr.out]
  go_enter Tryd.func53, Tryd.ntmps53
  go_wp2_with fail
  have hE := EvW.start h #[.int .i64 0, .int .i64 0, .int .i64 0, .int .i64 0, .int .i64 0, .slice none 0 0, .int .i64 0, .int .i64 0, .int .i64 0, .slice none 0 0, .string ⟨#[]⟩, .int .i64 0, .int .i64 0, .int .i64 0, .int .u32 0, .int .i64 0, .int .i64 0, .int .i64 0, .int .i64 0]
  generalize w.alloc (.cells #[.int .i64 0, .int .i64 0, .int .i64 0, .int .i64 0, .int .i64 0, .slice none 0 0, .int .i64 0, .int .i64 0, .int .i64 0, .slice none 0 0, .string ⟨#[]⟩, .int .i64 0, .int .i64 0, .int .i64 0, .int .u32 0, .int .i64 0, .int .i64 0, .int .i64 0, .int .i64 0] 52) = w1 at hE ⊢
  generalize w.heap.size = b at hE ⊢
  refine (Next_any g st 4 w1 hE.lot ok).mono ?_
  rintro e w2 ⟨rfl, hL, hK, -⟩
  rw [hs1.out] at hL
  rw [hs1.out, ho.out]
  have hE2 := hE.next hL hK
  clear hE hL hK
  by_cases c0 : o = 0
  · have e0 : (o == 0) = true := by rw [beq_iff_eq]; exact c0
    go_wp2_with fail
    refine (Next_any g s1 n w2 hE2.lot ok1).mono ?_
    rintro e w3 ⟨rfl, hL, hK, -⟩
    rw [hs2.out] at hL
    rw [hs2.out, hv.out]
    have hE3 := hE2.next hL hK
    clear hL hK
    go_wp2_with (refine wpList_store_box 52 (.tmp 4) (.tmp 13) b #[.int .i64 5, .int .i64 v, .int .i64 0, .int .i64 0, .int .i64 0, .slice none 0 0, .int .i64 0, .int .i64 0, .int .i64 0, .slice none 0 0, .string ⟨#[]⟩, .int .i64 0, .int .i64 0, .int .i64 0, .int .u32 0, .int .i64 0, .int .i64 0, .int .i64 0, .int .i64 0] 52 #[.int .i64 0, .int .i64 0, .int .i64 0, .int .i64 0, .int .i64 0, .slice none 0 0, .int .i64 0, .int .i64 0, .int .i64 0, .slice none 0 0, .string ⟨#[]⟩, .int .i64 0, .int .i64 0, .int .i64 0, .int .u32 0, .int .i64 0, .int .i64 0, .int .i64 0, .int .i64 0] rfl rfl rfl rfl hE3.box (by kernel_rfl) rfl rfl ?_)
    intro w4 hw1 hw2
    have HW := Lib.hid (And.intro hw1 hw2)
    clear hw1 hw2
    go_wp2
    obtain ⟨hw1, hw2⟩ := HW.out
    exact bodyPost_ret (v := .agg #[.int .i64 5, .int .i64 v, .int .i64 0, .int .i64 0, .int .i64 0, .slice none 0 0, .int .i64 0, .int .i64 0, .int .i64 0, .slice none 0 0, .string ⟨#[]⟩, .int .i64 0, .int .i64 0, .int .i64 0, .int .u32 0, .int .i64 0, .int .i64 0, .int .i64 0, .int .i64 0]) (results_box Tryd.results53 rfl hw1 Tryd.underlying52 rfl (by kernel_rfl)) rfl (by rw [← hr.out, Hev.out, if_pos c0]; exact (hE3.store hw1 hw2).post)
  have e0 : (o == 0) = false := by rw [beq_eq_false_iff_ne]; exact c0
  by_cases c1 : o = 1
  · have e1 : (o == 1) = true := by rw [beq_iff_eq]; exact c1
    go_wp2_with fail
    refine (Next_any g s1 n w2 hE2.lot ok1).mono ?_
    rintro e w3 ⟨rfl, hL, hK, -⟩
    rw [hs2.out] at hL
    rw [hs2.out, hv.out]
    have hE3 := hE2.next hL hK
    clear hL hK
    go_wp2_with (refine wpList_store_box 52 (.tmp 4) (.tmp 19) b #[.int .i64 6, .int .i64 v, .int .i64 0, .int .i64 0, .int .i64 0, .slice none 0 0, .int .i64 0, .int .i64 0, .int .i64 0, .slice none 0 0, .string ⟨#[]⟩, .int .i64 0, .int .i64 0, .int .i64 0, .int .u32 0, .int .i64 0, .int .i64 0, .int .i64 0, .int .i64 0] 52 #[.int .i64 0, .int .i64 0, .int .i64 0, .int .i64 0, .int .i64 0, .slice none 0 0, .int .i64 0, .int .i64 0, .int .i64 0, .slice none 0 0, .string ⟨#[]⟩, .int .i64 0, .int .i64 0, .int .i64 0, .int .u32 0, .int .i64 0, .int .i64 0, .int .i64 0, .int .i64 0] rfl rfl rfl rfl hE3.box (by kernel_rfl) rfl rfl ?_)
    intro w4 hw1 hw2
    have HW := Lib.hid (And.intro hw1 hw2)
    clear hw1 hw2
    go_wp2
    obtain ⟨hw1, hw2⟩ := HW.out
    exact bodyPost_ret (v := .agg #[.int .i64 6, .int .i64 v, .int .i64 0, .int .i64 0, .int .i64 0, .slice none 0 0, .int .i64 0, .int .i64 0, .int .i64 0, .slice none 0 0, .string ⟨#[]⟩, .int .i64 0, .int .i64 0, .int .i64 0, .int .u32 0, .int .i64 0, .int .i64 0, .int .i64 0, .int .i64 0]) (results_box Tryd.results53 rfl hw1 Tryd.underlying52 rfl (by kernel_rfl)) rfl (by rw [← hr.out, Hev.out, if_neg c0, if_pos c1]; exact (hE3.store hw1 hw2).post)
  have e1 : (o == 1) = false := by rw [beq_eq_false_iff_ne]; exact c1
  by_cases c2 : o = 2
  · have e2 : (o == 2) = true := by rw [beq_iff_eq]; exact c2
    go_wp2_with fail
    refine (Next_any g s1 n w2 hE2.lot ok1).mono ?_
    rintro e w3 ⟨rfl, hL, hK, -⟩
    rw [hs2.out] at hL
    rw [hs2.out, hv.out]
    have hE3 := hE2.next hL hK
    clear hL hK
    have how := hE3.own
    have hgE := hE3.lot.lt
    have hbE := hE3.lt
    go_wp2_with (refine wpList_alloc_box 52 (.agg #[.int .i64 0, .int .i64 0, .int .i64 0, .int .i64 0, .int .i64 0, .slice none 0 0, .int .i64 0, .int .i64 0, .int .i64 0, .slice none 0 0, .string ⟨#[]⟩, .int .i64 0, .int .i64 0, .int .i64 0, .int .u32 0, .int .i64 0, .int .i64 0, .int .i64 0, .int .i64 0]) rfl rfl (by kernel_rfl) ?_)
    intro w4 hb4 hB4
    have hE4 := hE3.below hB4
    clear hB4 hE3 hE2
    generalize w3.heap.size = c at hb4 hgE hbE ⊢
    have hbc : b < c ∧ g < c := by omega
    have hc4 : c < w4.heap.size := (Array.getElem?_eq_some_iff.1 hb4).1
    have HB := Lib.hid hb4
    clear hb4
    go_wp2_with (refine wpList_store_box 52 (.tmp 5) (.tmp 25) c #[.int .i64 10, .int .i64 v, .int .i64 0, .int .i64 0, .int .i64 0, .slice none 0 0, .int .i64 0, .int .i64 0, .int .i64 0, .slice none 0 0, .string ⟨#[]⟩, .int .i64 0, .int .i64 0, .int .i64 0, .int .u32 0, .int .i64 0, .int .i64 0, .int .i64 0, .int .i64 0] 52 #[.int .i64 0, .int .i64 0, .int .i64 0, .int .i64 0, .int .i64 0, .slice none 0 0, .int .i64 0, .int .i64 0, .int .i64 0, .slice none 0 0, .string ⟨#[]⟩, .int .i64 0, .int .i64 0, .int .i64 0, .int .u32 0, .int .i64 0, .int .i64 0, .int .i64 0, .int .i64 0] rfl rfl rfl rfl HB.out (by kernel_rfl) rfl rfl ?_)
    intro w5 hb5 hk5
    have hE5 : EvW w g b s2 #[.int .i64 0, .int .i64 0, .int .i64 0, .int .i64 0, .int .i64 0, .slice none 0 0, .int .i64 0, .int .i64 0, .int .i64 0, .slice none 0 0, .string ⟨#[]⟩, .int .i64 0, .int .i64 0, .int .i64 0, .int .u32 0, .int .i64 0, .int .i64 0, .int .i64 0, .int .i64 0] w5 := ⟨hE4.lot.keeps hk5 (fun hk => by have : g = c := hk; omega), (hk5.block b hE4.lt (fun hk => by have : b = c := hk; omega)).trans hE4.box, hE4.keep.step hk5 fun k hk hlt => by have : k = c := hk; have := hE4.own; omega, hE4.own, hE4.ne⟩
    have hc5 : c < w5.heap.size := (Array.getElem?_eq_some_iff.1 hb5).1
    clear HB hk5 hE4 hc4
    have HB := Lib.hid hb5
    clear hb5
    go_wp2_with fail
    refine (Next_any g s2 4 w5 hE5.lot ok2).mono ?_
    rintro e w6 ⟨rfl, hL, hK, -⟩
    rw [hs3.out] at hL
    rw [hs3.out, hu.out]
    have hE6 := hE5.next hL hK
    have hb6 := (hK.block c hc5 (by omega)).trans HB.out
    have hc6 : c < w6.heap.size := (Array.getElem?_eq_some_iff.1 hb6).1
    have hlt6 := hE6.lt
    clear hL hK hE5 HB
    have hb7 := heap_setCell_same w6 c 4 _ _ (.int .i64 u) hb6
    have hk7 : Keeps (fun k => k = c) w6 (w6.setCell ⟨c, 4, none⟩ (.int .i64 u)) := (Keeps.refl (fun k => k = c) w6).setCell (p := ⟨c, 4, none⟩) (fun _ => rfl) _
    have hE7 : EvW w g b s3 #[.int .i64 0, .int .i64 0, .int .i64 0, .int .i64 0, .int .i64 0, .slice none 0 0, .int .i64 0, .int .i64 0, .int .i64 0, .slice none 0 0, .string ⟨#[]⟩, .int .i64 0, .int .i64 0, .int .i64 0, .int .u32 0, .int .i64 0, .int .i64 0, .int .i64 0, .int .i64 0] (w6.setCell ⟨c, 4, none⟩ (.int .i64 u)) := ⟨hE6.lot.keeps hk7 (fun hk => by have : g = c := hk; omega), (hk7.block b hlt6 (fun hk => by have : b = c := hk; omega)).trans hE6.box, hE6.keep.step hk7 fun k hk hlt => by have : k = c := hk; omega, hE6.own, hE6.ne⟩
    have hb7 : (w6.setCell ⟨c, 4, none⟩ (.int .i64 u)).heap[c]? = some (.cells #[.int .i64 10, .int .i64 v, .int .i64 0, .int .i64 0, .int .i64 u, .slice none 0 0, .int .i64 0, .int .i64 0, .int .i64 0, .slice none 0 0, .string ⟨#[]⟩, .int .i64 0, .int .i64 0, .int .i64 0, .int .u32 0, .int .i64 0, .int .i64 0, .int .i64 0, .int .i64 0] 52 (0, 0)) := hb7.trans rfl
    have pc4 : w6.cell? ⟨c, 4, none⟩ = some (.int .i64 0) := cell_of_row w6 c 4 _ _ _ hb6
    have pf4 : w6.frozen? ⟨c, 4, none⟩ = false := frozen_of_row w6 c 4 _ _ hb6
    have HH := Lib.hid (And.intro hE7 hb7)
    clear hE7 hb7 hk7 hb6 hE6
    go_wp2_with (first
      | (refine wpList_load_row rfl 52 (.tmp 5) rfl c rfl 52 #[.int .i64 10, .int .i64 v, .int .i64 0, .int .i64 0, .int .i64 u, .slice none 0 0, .int .i64 0, .int .i64 0, .int .i64 0, .slice none 0 0, .string ⟨#[]⟩, .int .i64 0, .int .i64 0, .int .i64 0, .int .u32 0, .int .i64 0, .int .i64 0, .int .i64 0, .int .i64 0] (0, 0) _ HH.out.2 Tryd.underlying52 rfl (by kernel_rfl) ?_)
      | (refine wpList_store_box 52 (.tmp 4) (.tmp 29) b #[.int .i64 10, .int .i64 v, .int .i64 0, .int .i64 0, .int .i64 u, .slice none 0 0, .int .i64 0, .int .i64 0, .int .i64 0, .slice none 0 0, .string ⟨#[]⟩, .int .i64 0, .int .i64 0, .int .i64 0, .int .u32 0, .int .i64 0, .int .i64 0, .int .i64 0, .int .i64 0] 52 #[.int .i64 0, .int .i64 0, .int .i64 0, .int .i64 0, .int .i64 0, .slice none 0 0, .int .i64 0, .int .i64 0, .int .i64 0, .slice none 0 0, .string ⟨#[]⟩, .int .i64 0, .int .i64 0, .int .i64 0, .int .u32 0, .int .i64 0, .int .i64 0, .int .i64 0, .int .i64 0] rfl rfl rfl rfl HH.out.1.box (by kernel_rfl) rfl rfl ?_))
    have hE7 := HH.out.1
    generalize w6.setCell ⟨c, 4, none⟩ (.int .i64 u) = w7 at hE7 ⊢
    clear HH pc4 pf4
    intro w8 hw1 hw2
    have HW := Lib.hid (And.intro hw1 hw2)
    clear hw1 hw2
    go_wp2
    obtain ⟨hw1, hw2⟩ := HW.out
    exact bodyPost_ret (v := .agg #[.int .i64 10, .int .i64 v, .int .i64 0, .int .i64 0, .int .i64 u, .slice none 0 0, .int .i64 0, .int .i64 0, .int .i64 0, .slice none 0 0, .string ⟨#[]⟩, .int .i64 0, .int .i64 0, .int .i64 0, .int .u32 0, .int .i64 0, .int .i64 0, .int .i64 0, .int .i64 0]) (results_box Tryd.results53 rfl hw1 Tryd.underlying52 rfl (by kernel_rfl)) rfl (by rw [← hr.out, Hev.out, if_neg c0, if_neg c1, if_pos c2]; exact (hE7.store hw1 hw2).post)
  · have e2 : (o == 2) = false := by rw [beq_eq_false_iff_ne]; exact c2
    go_wp2_with fail
    refine (Next_any g s1 9 w2 hE2.lot ok1).mono ?_
    rintro e w3 ⟨rfl, hL, hK, -⟩
    rw [hs2.out] at hL
    rw [hs2.out, hv9.out]
    have hE3 := hE2.next hL hK
    clear hL hK
    go_wp2_with (refine wpList_store_box 52 (.tmp 4) (.tmp 32) b #[.int .i64 4, .int .i64 0, .int .i64 v9, .int .i64 0, .int .i64 0, .slice none 0 0, .int .i64 0, .int .i64 0, .int .i64 0, .slice none 0 0, .string ⟨#[]⟩, .int .i64 0, .int .i64 0, .int .i64 0, .int .u32 0, .int .i64 0, .int .i64 0, .int .i64 0, .int .i64 0] 52 #[.int .i64 0, .int .i64 0, .int .i64 0, .int .i64 0, .int .i64 0, .slice none 0 0, .int .i64 0, .int .i64 0, .int .i64 0, .slice none 0 0, .string ⟨#[]⟩, .int .i64 0, .int .i64 0, .int .i64 0, .int .u32 0, .int .i64 0, .int .i64 0, .int .i64 0, .int .i64 0] rfl rfl rfl rfl hE3.box (by kernel_rfl) rfl rfl ?_)
    intro w4 hw1 hw2
    have HW := Lib.hid (And.intro hw1 hw2)
    clear hw1 hw2
    go_wp2
    obtain ⟨hw1, hw2⟩ := HW.out
    exact bodyPost_ret (v := .agg #[.int .i64 4, .int .i64 0, .int .i64 v9, .int .i64 0, .int .i64 0, .slice none 0 0, .int .i64 0, .int .i64 0, .int .i64 0, .slice none 0 0, .string ⟨#[]⟩, .int .i64 0, .int .i64 0, .int .i64 0, .int .u32 0, .int .i64 0, .int .i64 0, .int .i64 0, .int .i64 0]) (results_box Tryd.results53 rfl hw1 Tryd.underlying52 rfl (by kernel_rfl)) rfl (by rw [← hr.out, Hev.out, if_neg c0, if_neg c1, if_neg c2]; exact (hE3.store hw1 hw2).post)
end Go.Proofs.YtngmipppgnlkdaaDoor
