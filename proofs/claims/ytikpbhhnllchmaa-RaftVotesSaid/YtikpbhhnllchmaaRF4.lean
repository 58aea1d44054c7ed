/- raft: all, about. -/
import Derived.Test.YtikpbhhnllchmaaRF3
set_option linter.unusedVariables false
set_option linter.unusedSimpArgs false
namespace Go.Proofs.Ytikpbhhnllchmaa
open Go.RowKit
attribute [local go_sem] Same.cell Same.frozen

theorem tMessage : ElemT Try.prog 28 34 11 120 := ElemT.mk' (z := .agg #[.int .i64 0, .int .i64 0, .int .i64 0, .int .i64 0, .int .i64 0, .int .i64 0, .slice none 0 0, .int .i64 0, .bool false, .int .i64 0, .slice none 0 0]) Try.underlying28 (by kernel_rfl) rfl
/-- What a message leads to. -/
def MsgAt (W : World) (F : Foot) (m : Message) (A6 : Option Addr) (c6 : Nat) (A10 : Option Addr) (c10 : Nat) : Prop :=
  m.Entries.length ≤ c6 ∧ c6 ≤ 9223372036854775807 ∧ RS kEntry W F A6 m.Entries.length m.Entries ∧ m.Data.length ≤ c10 ∧ c10 ≤ 9223372036854775807 ∧ RS (kInt .u8) W F A10 m.Data.length m.Data
theorem MsgAt.keep {W W' : World} {F : Foot} {m : Message} {A6 : Option Addr} {c6 : Nat} {A10 : Option Addr} {c10 : Nat} (h : MsgAt W F m A6 c6 A10 c10) (hk : ∀ k, F k → k < W.heap.size → W'.heap[k]? = W.heap[k]?) : MsgAt W' F m A6 c6 A10 c10 :=
  ⟨h.1, h.2.1, h.2.2.1.keep hk, h.2.2.2.1, h.2.2.2.2.1, h.2.2.2.2.2.keep hk⟩
theorem MsgAt.mono {W : World} {F G : Foot} {m : Message} {A6 : Option Addr} {c6 : Nat} {A10 : Option Addr} {c10 : Nat} (h : MsgAt W F m A6 c6 A10 c10) (hG : ∀ k, F k → G k) : MsgAt W G m A6 c6 A10 c10 :=
  ⟨h.1, h.2.1, h.2.2.1.mono hG, h.2.2.2.1, h.2.2.2.2.1, h.2.2.2.2.2.mono hG⟩
theorem MsgAt.below {W W' : World} {F : Foot} {m : Message} {A6 : Option Addr} {c6 : Nat} {A10 : Option Addr} {c10 : Nat} (h : MsgAt W F m A6 c6 A10 c10) (hb : Below W.heap.size W W') : MsgAt W' F m A6 c6 A10 c10 := h.keep fun k _ hl => hb.block k hl
/-- What a function hands back that makes a message. -/
def MsgPost (w : World) (m : Message) (e : Ending) (w' : World) : Prop := ∃ A6 c6 A10 c10, e = .returned (.agg #[.int .i64 m.Kind, .int .i64 m.From, .int .i64 m.To, .int .i64 m.Term, .int .i64 m.Last, .int .i64 m.LastTerm, .slice A6 m.Entries.length c6, .int .i64 m.Commit, .bool m.OK, .int .i64 m.Match, .slice A10 m.Data.length c10]) ∧ MsgAt w' (New w w') m A6 c6 A10 c10 ∧ Below w.heap.size w w'
/-- .. or a row of messages. -/
def MsgsPost (w : World) (e : Ending) (w' : World) : Prop := ∃ v ms, e = .returned v ∧ OwnS kMessage 34 w' (New w w') v ms ∧ Below w.heap.size w w'

set_option maxHeartbeats 4000000 in
set_option maxRecDepth 100000 in
theorem all_any (f : Nat) (first cap : Array Value) (hcf : ∀ (id : Int) (w : World), (callFunc f (first.push (.int .i64 id) ++ cap)).run Try.prog w = .ok (.enter f (first.push (.int .i64 id) ++ cap)) w) (w : World) (rb : Nat) (F : Foot) (s : RaftS) (h : RaftAt w rb F s) (ok : s.Ok)
    (hd : ∀ (id : Int) w1, Below w.heap.size w w1 → 1 ≤ id → id ≤ s.n → id ≠ s.id → Calls Try.prog f (first.push (.int .i64 id) ++ cap) w1 fun e w2 => ∃ m, MsgPost w1 m e w2) :
    Calls Try.prog 24 #[.pointer (some ⟨rb, 0, none⟩), .func (.func f) first cap] w (MsgsPost w) := by
  have HD := Lib.hid hd
  have H := Lib.hid h
  have hn7 := ok.n7
  have hn1 : 1 ≤ s.n := by have := ok.i1; have := ok.i2; omega
  clear hd h ok
  go_enter Try.func24, Try.ntmps24
  go_wp2
  go_loopw [5, 6] (fun v q wr => ∃ (i : Nat) (ms : List Message), q = .int .i64 i ∧ 1 ≤ i ∧ (i : Int) ≤ s.n + 1 ∧ Hid (OwnS kMessage 34 wr (New w wr) v ms ∧ ms.length ≤ i ∧ Below w.heap.size w wr)) (fun _ q _ => 20 - (intOf q).toNat)
  case atStart => exact ⟨1, [], rfl, by omega, by omega, OwnS.nil, by simp, Below.refl _ _⟩
  case round =>
    obtain ⟨i, ms, rfl, hi1, hi2, hO⟩ := hrel
    obtain ⟨lb, p, As, cs, vy, vn, vm, h, hF⟩ := H.out.below hO.out.2.2
    obtain ⟨c0, c1, -, -, -, -, -, -, -, -, -, -, -, -, -, hlt⟩ := h.facts
    clear h hF
    by_cases hin : (i : Int) ≤ s.n
    · by_cases hid : (i : Int) = s.id
      · have e1 : ((i : Int) == s.id) = true := by rw [beq_iff_eq]; exact hid
        have e2 : ((i : Int) != s.id) = false := by rw [bne_eq_false_iff_eq]; exact hid
        clear hid
        go_wp2_with fail
        go_roundw
        case rel => exact ⟨i + 1, ms, by go_num, by omega, by omega, hO.out.1, by have := hO.out.2.1; omega, hO.out.2.2⟩
        case measure => simp [intOf]; omega
      · have e1 : ((i : Int) == s.id) = false := by rw [beq_eq_false_iff_ne]; exact hid
        have e2 : ((i : Int) != s.id) = true := by rw [bne_iff_ne]; exact hid
        have HD2 := Lib.hid (HD.out (i : Int) wr hO.out.2.2 (by omega) hin hid)
        clear hid
        go_wp2_with fail
        refine HD2.out.mono ?_
        rintro e w2 ⟨m, A6, c6, A10, c10, rfl, hm, hb2⟩
        have hs2 := hb2.size
        have hO2 := hO.out.1.below hb2
        have hr2 : RS kMessage (w2.alloc (.cells #[.int .i64 m.Kind, .int .i64 m.From, .int .i64 m.To, .int .i64 m.Term, .int .i64 m.Last, .int .i64 m.LastTerm, .slice A6 m.Entries.length c6, .int .i64 m.Commit, .bool m.OK, .int .i64 m.Match, .slice A10 m.Data.length c10] 34)) (fun k => New wr w2 k ∨ k = w2.heap.size) (some ⟨w2.heap.size, 0, none⟩) 1 [m] :=
          RS.lit w2 (xs := [m]) (Elems.single (K := kMessage) ⟨A6, c6, A10, c10, rfl, hm.1, hm.2.1, hm.2.2.1, hm.2.2.2.1, hm.2.2.2.2.1, hm.2.2.2.2.2⟩)
        have hb3 : Below w2.heap.size w2 (w2.alloc (.cells #[.int .i64 m.Kind, .int .i64 m.From, .int .i64 m.To, .int .i64 m.Term, .int .i64 m.Last, .int .i64 m.LastTerm, .slice A6 m.Entries.length c6, .int .i64 m.Commit, .bool m.OK, .int .i64 m.Match, .slice A10 m.Data.length c10] 34)) := (Below.refl _ _).alloc (Nat.le_refl _) _
        have hO3 := hO2.below hb3
        obtain ⟨A5, n5, c5, rfl⟩ := hO3.shape
        clear hm hO2
        go_wp2_with (first
          | (at_builtin
             refine wpList_append_S rfl tMessage (.tmp 21) (.tmp 25) rfl (K := kMessage) rfl rfl hO3 hr2 ?_ ?_ ?_ ?_))
        · intro k hk hk2
          have h1 := (hO.out.1.lt k hk)
          have h2 := h1.1.2
          rcases hk2 with hk2 | hk2
          · have := hk2.1; omega
          · omega
        · have := hO.out.2.1; omega
        · have := hO.out.2.1; omega
        intro v4 w4 hA
        have hsw := hO.out.2.2.size
        have hs3 := hb3.size
        have hs4 := hA.grown.size
        have hB4 : Below w.heap.size w w4 := ((hO.out.2.2.trans (hb2.mono hsw)).trans (hb3.mono (by omega))).grown hA.grown (by omega) (fun j hj => (hO.out.1.lt j hj).1.1)
        have hO4 : OwnS kMessage 34 w4 (New w w4) v4 (ms ++ [m]) := hA.own.mono fun k hk => by
          rcases hk with hk | (hk | hk) | hk
          · exact ⟨hk.1, by have := hk.2; omega⟩
          · exact ⟨by have := hk.1; omega, by have := hk.2; omega⟩
          · exact ⟨by omega, by rw [World.size_alloc] at hs4; omega⟩
          · exact ⟨by omega, hk.2⟩
        have HH := Lib.hid (And.intro hO4 hB4)
        clear hA hO3 hr2 hb3 hO4 hB4 hb2
        go_wp2
        go_roundw
        case rel => exact ⟨i + 1, ms ++ [m], by go_num, by omega, by omega, HH.out.1, by have := hO.out.2.1; rw [List.length_append, List.length_singleton]; omega, HH.out.2⟩
        case measure => simp [intOf]; omega
    · go_wp2_with fail
      go_ret
      exact ⟨_, ms, rfl, hO.out.1, hO.out.2.2⟩

theorem set11 (W : World) (g : Nat) (t : TypeId) (z0 z1 z2 z3 z4 z5 z6 z7 z8 z9 z10 : Value) (h : W.heap[g]? = some (.cells #[z0, z1, z2, z3, z4, z5, z6, z7, z8, z9, z10] t (0, 0))) (v0 v1 v2 v3 v4 v5 v6 v7 v8 v9 v10 : Value) :
    (((((((((((W.setCell ⟨g, 0, none⟩ v0).setCell ⟨g, 1, none⟩ v1).setCell ⟨g, 2, none⟩ v2).setCell ⟨g, 3, none⟩ v3).setCell ⟨g, 4, none⟩ v4).setCell ⟨g, 5, none⟩ v5).setCell ⟨g, 6, none⟩ v6).setCell ⟨g, 7, none⟩ v7).setCell ⟨g, 8, none⟩ v8).setCell ⟨g, 9, none⟩ v9).setCell ⟨g, 10, none⟩ v10).heap[g]? = some (.cells #[v0, v1, v2, v3, v4, v5, v6, v7, v8, v9, v10] t (0, 0)) ∧ Keeps (fun k => k = g) W (((((((((((W.setCell ⟨g, 0, none⟩ v0).setCell ⟨g, 1, none⟩ v1).setCell ⟨g, 2, none⟩ v2).setCell ⟨g, 3, none⟩ v3).setCell ⟨g, 4, none⟩ v4).setCell ⟨g, 5, none⟩ v5).setCell ⟨g, 6, none⟩ v6).setCell ⟨g, 7, none⟩ v7).setCell ⟨g, 8, none⟩ v8).setCell ⟨g, 9, none⟩ v9).setCell ⟨g, 10, none⟩ v10) := by
  have h0 := heap_setCell_same _ g 0 _ _ v0 h
  have h1 := heap_setCell_same _ g 1 _ _ v1 h0
  have h2 := heap_setCell_same _ g 2 _ _ v2 h1
  have h3 := heap_setCell_same _ g 3 _ _ v3 h2
  have h4 := heap_setCell_same _ g 4 _ _ v4 h3
  have h5 := heap_setCell_same _ g 5 _ _ v5 h4
  have h6 := heap_setCell_same _ g 6 _ _ v6 h5
  have h7 := heap_setCell_same _ g 7 _ _ v7 h6
  have h8 := heap_setCell_same _ g 8 _ _ v8 h7
  have h9 := heap_setCell_same _ g 9 _ _ v9 h8
  have h10 := heap_setCell_same _ g 10 _ _ v10 h9
  simp only [List.setIfInBounds_toArray, List.set_cons_zero, List.set_cons_succ] at h10
  exact ⟨h10, ((((((((((((Keeps.refl (fun k => k = g) W).setCell (p := ⟨g, 0, none⟩) (fun _ => rfl) v0).setCell (p := ⟨g, 1, none⟩) (fun _ => rfl) v1).setCell (p := ⟨g, 2, none⟩) (fun _ => rfl) v2).setCell (p := ⟨g, 3, none⟩) (fun _ => rfl) v3).setCell (p := ⟨g, 4, none⟩) (fun _ => rfl) v4).setCell (p := ⟨g, 5, none⟩) (fun _ => rfl) v5).setCell (p := ⟨g, 6, none⟩) (fun _ => rfl) v6).setCell (p := ⟨g, 7, none⟩) (fun _ => rfl) v7).setCell (p := ⟨g, 8, none⟩) (fun _ => rfl) v8).setCell (p := ⟨g, 9, none⟩) (fun _ => rfl) v9).setCell (p := ⟨g, 10, none⟩) (fun _ => rfl) v10)⟩

/-- A result that lies in a block of its own. -/
theorem results_box {P : Program} {w : World} {f : Func} {tmps : Array Value} {slot T b : Nat} {cells : Array Value} {t : TypeId} {d : TypeDesc} (hres : f.results = #[.cell slot T]) (hs : tmps.getD slot undef = .pointer (some ⟨b, 0, none⟩))
    (hb : w.heap[b]? = some (.cells cells t (0, 0))) (hu : P.underlying T = some d) (hag : (match d with | .struct _ | .array _ _ => true | _ => false) = true) (hi : (P.info? T).map (·.size) = some cells.size) : (results f tmps).run P w = .ok (.agg cells) w := by
  have hl := run_loadVar_row (P := P) w b t T cells (0, 0) d hb hu hag hi
  have hs' : tmps[slot]?.getD undef = .pointer (some ⟨b, 0, none⟩) := by simpa using hs
  unfold results
  rw [hres]
  simp [hs', asAddr, hl]
theorem box11 {W : World} {g : Nat} {t : TypeId} {z0 z1 z2 z3 z4 z5 z6 z7 z8 z9 z10 : Value} (h : W.heap[g]? = some (.cells #[z0, z1, z2, z3, z4, z5, z6, z7, z8, z9, z10] t (0, 0))) : W.cell? ⟨g, 0, none⟩ = some z0 ∧ W.cell? ⟨g, 1, none⟩ = some z1 ∧ W.cell? ⟨g, 2, none⟩ = some z2 ∧ W.cell? ⟨g, 3, none⟩ = some z3 ∧ W.cell? ⟨g, 4, none⟩ = some z4 ∧ W.cell? ⟨g, 5, none⟩ = some z5 ∧ W.cell? ⟨g, 6, none⟩ = some z6 ∧ W.cell? ⟨g, 7, none⟩ = some z7 ∧ W.cell? ⟨g, 8, none⟩ = some z8 ∧ W.cell? ⟨g, 9, none⟩ = some z9 ∧ W.cell? ⟨g, 10, none⟩ = some z10 ∧ W.frozen? ⟨g, 0, none⟩ = false ∧ W.frozen? ⟨g, 1, none⟩ = false ∧ W.frozen? ⟨g, 2, none⟩ = false ∧ W.frozen? ⟨g, 3, none⟩ = false ∧ W.frozen? ⟨g, 4, none⟩ = false ∧ W.frozen? ⟨g, 5, none⟩ = false ∧ W.frozen? ⟨g, 6, none⟩ = false ∧ W.frozen? ⟨g, 7, none⟩ = false ∧ W.frozen? ⟨g, 8, none⟩ = false ∧ W.frozen? ⟨g, 9, none⟩ = false ∧ W.frozen? ⟨g, 10, none⟩ = false :=
  ⟨cell_of_row W g 0 _ _ _ h, cell_of_row W g 1 _ _ _ h, cell_of_row W g 2 _ _ _ h, cell_of_row W g 3 _ _ _ h, cell_of_row W g 4 _ _ _ h, cell_of_row W g 5 _ _ _ h, cell_of_row W g 6 _ _ _ h, cell_of_row W g 7 _ _ _ h, cell_of_row W g 8 _ _ _ h, cell_of_row W g 9 _ _ _ h, cell_of_row W g 10 _ _ _ h, frozen_of_row W g 0 _ _ h, frozen_of_row W g 1 _ _ h, frozen_of_row W g 2 _ _ h, frozen_of_row W g 3 _ _ h, frozen_of_row W g 4 _ _ h, frozen_of_row W g 5 _ _ h, frozen_of_row W g 6 _ _ h, frozen_of_row W g 7 _ _ h, frozen_of_row W g 8 _ _ h, frozen_of_row W g 9 _ _ h, frozen_of_row W g 10 _ _ h⟩
def aboutM (s : RaftS) (kind term id : Int) : Message := ⟨kind, s.id, id, term, s.log.last, s.log.Last.2, [], 0, false, 0, []⟩
set_option maxHeartbeats 2000000 in
set_option maxRecDepth 100000 in
theorem about1_any (w : World) (rb : Nat) (F : Foot) (s : RaftS) (kind term id : Int) (p1 p2 p3 : Nat) (h : RaftAt w rb F s) (ok : s.Ok)
    (hp : w.cell? ⟨p1, 0, none⟩ = some (.pointer (some ⟨rb, 0, none⟩))) (hq : w.cell? ⟨p2, 0, none⟩ = some (.int .i64 kind)) (hr : w.cell? ⟨p3, 0, none⟩ = some (.int .i64 term)) :
    Calls Try.prog 63 #[.int .i64 id, .pointer (some ⟨p1, 0, none⟩), .pointer (some ⟨p2, 0, none⟩), .pointer (some ⟨p3, 0, none⟩)] w (MsgPost w (aboutM s kind term id)) := by
  have H := Lib.hid h
  have l1 := World.block_lt_of_cell? w _ hp
  have l2 := World.block_lt_of_cell? w _ hq
  have l3 := World.block_lt_of_cell? w _ hr
  have hb1 : Below w.heap.size w (w.alloc (.cells #[.int .i64 0, .int .i64 0, .int .i64 0, .int .i64 0, .int .i64 0, .int .i64 0, .slice none 0 0, .int .i64 0, .bool false, .int .i64 0, .slice none 0 0] 34)) := (Below.refl _ _).alloc (Nat.le_refl _) _
  have hc1 := heap_alloc_new w (.cells #[.int .i64 0, .int .i64 0, .int .i64 0, .int .i64 0, .int .i64 0, .int .i64 0, .slice none 0 0, .int .i64 0, .bool false, .int .i64 0, .slice none 0 0] 34)
  clear h
  go_enter Try.func63, Try.ntmps63
  go_wp2_with fail
  have HM := Lib.hid (message_any _ rb F s kind id term (H.out.below hb1))
  have hlt0 : w.heap.size < (w.alloc (.cells #[.int .i64 0, .int .i64 0, .int .i64 0, .int .i64 0, .int .i64 0, .int .i64 0, .slice none 0 0, .int .i64 0, .bool false, .int .i64 0, .slice none 0 0] 34)).heap.size := by simp
  generalize w.alloc (.cells #[.int .i64 0, .int .i64 0, .int .i64 0, .int .i64 0, .int .i64 0, .int .i64 0, .slice none 0 0, .int .i64 0, .bool false, .int .i64 0, .slice none 0 0] 34) = w1 at hb1 hc1 HM hlt0 ⊢
  refine HM.out.mono ?_
  rintro e w2 ⟨rfl, hb2⟩
  have hb12 : Below w.heap.size w w2 := hb1.trans (hb2.mono hb1.size)
  unfold msgV
  obtain ⟨lb, p, As, cs, vy, vn, vm, hR, hF⟩ := H.out.below hb12
  obtain ⟨-, -, -, -, -, -, -, -, -, c9, -, -, -, -, -, hlt⟩ := hR.facts
  have HL := Last_any lb _ s.log (w2.alloc (.cells #[.int .i64 kind, .int .i64 s.id, .int .i64 id, .int .i64 term, .int .i64 0, .int .i64 0, .slice none 0 0, .int .i64 0, .bool false, .int .i64 0, .slice none 0 0] 34)) (hR.log.alloc _) ok.log
  rw [show s.log.Last.1 = s.log.last from rfl] at HL
  have HL2 := Lib.hid HL
  have hc2 := (hb2.block _ hlt0).trans hc1
  have hp2 : w2.cell? ⟨p1, 0, none⟩ = some (.pointer (some ⟨rb, 0, none⟩)) := (hb12.cell (p := ⟨p1, 0, none⟩) l1).trans hp
  have hs12 := hb12.size
  have l12 : p1 < w2.heap.size := by omega
  have hb3 : Below w2.heap.size w2 (w2.alloc (.cells #[.int .i64 kind, .int .i64 s.id, .int .i64 id, .int .i64 term, .int .i64 0, .int .i64 0, .slice none 0 0, .int .i64 0, .bool false, .int .i64 0, .slice none 0 0] 34)) := (Below.refl _ _).alloc (Nat.le_refl _) _
  have hc3 := heap_alloc_new w2 (.cells #[.int .i64 kind, .int .i64 s.id, .int .i64 id, .int .i64 term, .int .i64 0, .int .i64 0, .slice none 0 0, .int .i64 0, .bool false, .int .i64 0, .slice none 0 0] 34)
  have hc23 := (hb3.block _ (by have := (Array.getElem?_eq_some_iff.1 hc2).1; exact this)).trans hc2
  have hlt02 : w.heap.size < w2.heap.size := (Array.getElem?_eq_some_iff.1 hc2).1
  have hs3 : w2.heap.size < (w2.alloc (.cells #[.int .i64 kind, .int .i64 s.id, .int .i64 id, .int .i64 term, .int .i64 0, .int .i64 0, .slice none 0 0, .int .i64 0, .bool false, .int .i64 0, .slice none 0 0] 34)).heap.size := by simp
  clear HL hp hq hr hR hF hb1 hb2 hc1 hlt0 hc2 HM
  go_wp2_with fail
  clear c9 hp2
  generalize w2.alloc (.cells #[.int .i64 kind, .int .i64 s.id, .int .i64 id, .int .i64 term, .int .i64 0, .int .i64 0, .slice none 0 0, .int .i64 0, .bool false, .int .i64 0, .slice none 0 0] 34) = w3 at HL2 hb3 hc3 hc23 hs3 ⊢
  refine HL2.out.mono ?_
  rintro e w4 ⟨rfl, k, rfl⟩
  obtain ⟨a0, a1, a2, a3, a4, a5, a6, a7, a8, a9, a10, g0, g1, g2, g3, g4, g5, g6, g7, g8, g9, g10⟩ := box11 hc3
  obtain ⟨b0, b1, b2, b3, b4, b5, b6, b7, b8, b9, b10, f0, f1, f2, f3, f4, f5, f6, f7, f8, f9, f10⟩ := box11 hc23
  have hne1 : ¬ w.heap.size = w2.heap.size := by omega
  have hne2 : ¬ w2.heap.size = w.heap.size := by omega
  have hl3 : w.heap.size < w3.heap.size := by omega
  obtain ⟨x, hx⟩ : ∃ x, Hid (s.log.last = x) := ⟨_, rfl⟩
  obtain ⟨y, hy⟩ : ∃ y, Hid (s.log.Last.2 = y) := ⟨_, rfl⟩
  rw [hx.out, hy.out]
  have HB := Lib.hid (And.intro hb12 hb3)
  have HC := Lib.hid hc23
  clear hc3 hc23 hb12 hb3 HL2
  go_wp2
  have hz0 : (((w3.drewN k).setCell ⟨w2.heap.size, 4, none⟩ (.int .i64 x)).setCell ⟨w2.heap.size, 5, none⟩ (.int .i64 y)).heap[w.heap.size]? = _ := (Below.heap_setCell _ ⟨w2.heap.size, 5, none⟩ _ _ hne1).trans ((Below.heap_setCell _ ⟨w2.heap.size, 4, none⟩ _ _ hne1).trans HC.out)
  obtain ⟨r1, r2⟩ := set11 _ w.heap.size _ _ _ _ _ _ _ _ _ _ _ _ hz0 (.int .i64 kind) (.int .i64 s.id) (.int .i64 id) (.int .i64 term) (.int .i64 x) (.int .i64 y) (.slice none 0 0) (.int .i64 0) (.bool false) (.int .i64 0) (.slice none 0 0)
  refine bodyPost_ret (v := .agg #[.int .i64 kind, .int .i64 s.id, .int .i64 id, .int .i64 term, .int .i64 x, .int .i64 y, .slice none 0 0, .int .i64 0, .bool false, .int .i64 0, .slice none 0 0]) (results_box Try.results63 rfl r1 Try.underlying34 rfl (by kernel_rfl)) rfl ?_
  have hb0 : Below w.heap.size w (((w3.drewN k).setCell ⟨w2.heap.size, 4, none⟩ (.int .i64 x)).setCell ⟨w2.heap.size, 5, none⟩ (.int .i64 y)) := (((HB.out.1.trans (HB.out.2.mono (by omega))).trans ((drawn_below w3 k).mono (by omega))).setCell (p := ⟨w2.heap.size, 4, none⟩) (by show w.heap.size ≤ w2.heap.size; omega) _).setCell (p := ⟨w2.heap.size, 5, none⟩) (by show w.heap.size ≤ w2.heap.size; omega) _
  exact ⟨none, 0, none, 0, by rw [← hx.out, ← hy.out]; rfl, ⟨Nat.le_refl _, by omega, RS.nil, Nat.le_refl _, by omega, RS.nil⟩, hb0.trans (r2.below_of hb0.size fun j hj => by have : j = w.heap.size := hj; omega)⟩

set_option maxHeartbeats 2000000 in
theorem about_any (w : World) (rb : Nat) (F : Foot) (s : RaftS) (kind term : Int) (h : RaftAt w rb F s) (ok : s.Ok) :
    Calls Try.prog 52 #[.pointer (some ⟨rb, 0, none⟩), .int .i64 kind, .int .i64 term] w (MsgsPost w) := by
  have hm1 : ∀ (fn : Fn) (first cap : Array Value) (w : World), (Instr.makeFunc fn first cap).run Try.prog w = .ok (.func fn first cap) w := fun _ _ _ _ => rfl
  have hb3 : Below w.heap.size w (((w.alloc (.cells #[.pointer (some ⟨rb, 0, none⟩)] 23)).alloc (.cells #[.int .i64 kind] 3)).alloc (.cells #[.int .i64 term] 3)) := (((Below.refl _ _).alloc (Nat.le_refl _) _).alloc (by simp) _).alloc (by simp; omega) _
  have hp3 : (((w.alloc (.cells #[.pointer (some ⟨rb, 0, none⟩)] 23)).alloc (.cells #[.int .i64 kind] 3)).alloc (.cells #[.int .i64 term] 3)).cell? ⟨w.heap.size, 0, none⟩ = some (.pointer (some ⟨rb, 0, none⟩)) := by go_simp
  have hq3 : (((w.alloc (.cells #[.pointer (some ⟨rb, 0, none⟩)] 23)).alloc (.cells #[.int .i64 kind] 3)).alloc (.cells #[.int .i64 term] 3)).cell? ⟨w.heap.size + 1, 0, none⟩ = some (.int .i64 kind) := by go_simp
  have hr3 : (((w.alloc (.cells #[.pointer (some ⟨rb, 0, none⟩)] 23)).alloc (.cells #[.int .i64 kind] 3)).alloc (.cells #[.int .i64 term] 3)).cell? ⟨w.heap.size + 1 + 1, 0, none⟩ = some (.int .i64 term) := by go_simp
  have H := Lib.hid h
  clear h
  go_enter Try.func52, Try.ntmps52
  go_wp2_with fail
  generalize ((w.alloc (.cells #[.pointer (some ⟨rb, 0, none⟩)] 23)).alloc (.cells #[.int .i64 kind] 3)).alloc (.cells #[.int .i64 term] 3) = w3 at hb3 hp3 hq3 hr3 ⊢
  refine (all_any 63 #[] #[.pointer (some ⟨w.heap.size, 0, none⟩), .pointer (some ⟨w.heap.size + 1, 0, none⟩), .pointer (some ⟨w.heap.size + 1 + 1, 0, none⟩)] (fun _ _ => by kernel_rfl) w3 rb F s (H.out.below hb3) ok (fun id w1 hb _ _ _ => ?_)).mono ?_
  · refine (about1_any w1 rb F s kind term id _ _ _ ((H.out.below hb3).below hb) ok ((hb.cell (p := ⟨w.heap.size, 0, none⟩) (World.block_lt_of_cell? w3 _ hp3)).trans hp3) ((hb.cell (p := ⟨w.heap.size + 1, 0, none⟩) (World.block_lt_of_cell? w3 _ hq3)).trans hq3) ((hb.cell (p := ⟨w.heap.size + 1 + 1, 0, none⟩) (World.block_lt_of_cell? w3 _ hr3)).trans hr3)).mono fun e w' he => ⟨_, he⟩
  · rintro e w5 ⟨v, ms, rfl, hO, hb⟩
    have hs3 := hb3.size
    have HH := Lib.hid (And.intro (hO.mono (G := New w w5) fun k hk => ⟨by have := hk.1; omega, hk.2⟩) (hb3.trans (hb.mono hs3)))
    clear hO hb
    go_wp2
    go_ret
    exact ⟨v, ms, rfl, HH.out⟩
end Go.Proofs.Ytikpbhhnllchmaa
