/- The document's Copy and CopyEntries: what they make may be written. -/
import Derived.Test.YtngmipppgnlkdaaS6
set_option linter.unusedVariables false
set_option linter.unusedSimpArgs false
namespace Go.Proofs.Ytngmipppgnlkdaa
open Go.RowKit
attribute [local go_sem] Same.cell

theorem OwnS.blockOf {α : Type} {K : Kind α} {e : TypeId} {W : World} {F : Foot} {A : Option Addr} {n c : Nat} {xs : List α} (h : OwnS K e W F (.slice A n c) xs) (h0 : 0 < xs.length) :
    ∃ g cur, A = some ⟨g, 0, none⟩ ∧ F g ∧ W.heap[g]? = some (.cells cur e (0, 0)) ∧ xs.length * K.size ≤ cur.size := by
  obtain ⟨cs, ⟨h1, h2⟩, h3, h4⟩ := h
  rcases h2 with ⟨_, h2⟩ | ⟨g, cap, cur, hv, _, hh, hn, hc, hsz, htk⟩
  · omega
  · injection hv with e1 e2 e3
    refine ⟨g, cur, e1, h4 g (by rw [e1]; rfl), hh, ?_⟩
    rw [hsz]
    exact Nat.mul_le_mul_right _ hn

/-- An entry with a row of records that may be written. -/
def repEntryO (W : World) (F : Foot) (x : Entry) (cs : List Value) : Prop := ∃ (A4 : Option Addr) (c4 : Nat), cs = [.int .i64 x.Term, .int .i64 x.Cmd.Kind, .int .i64 x.Cmd.Pid, .int .i64 x.Cmd.Seq, .slice A4 x.Cmd.Records.length c4, .string x.Cmd.Group, .int .i64 x.Cmd.Offset, .int .i64 x.Cmd.Max, .int .i64 x.Cmd.Now, .int .u32 x.Cmd.Sum, .int .i64 x.Cmd.Conf.Segment, .int .i64 x.Cmd.Conf.Keep, .int .i64 x.Cmd.Conf.Age, .int .i64 x.Cmd.Conf.Grace] ∧ x.Cmd.Records.length ≤ c4 ∧ c4 ≤ 9223372036854775807 ∧ RS kRecord W F A4 x.Cmd.Records.length x.Cmd.Records ∧
  (0 < x.Cmd.Records.length → ∃ gi cur, A4 = some ⟨gi, 0, none⟩ ∧ F gi ∧ W.heap[gi]? = some (.cells cur 89 (0, 0)) ∧ x.Cmd.Records.length * 5 ≤ cur.size)
theorem repEntryO.plain {W : World} {F : Foot} {x : Entry} {cs : List Value} (h : repEntryO W F x cs) : kEntry.rep W F x cs := by
  obtain ⟨A4, c4, h1, h2, h3, h4, _⟩ := h
  exact ⟨A4, c4, h1, h2, h3, h4⟩
def kEntryO : Kind Entry where
  size := 14
  pos := by omega
  rep := repEntryO
  len := fun h => kEntry.len h.plain
  one := fun h => kEntry.one h.plain
  mono := by
    rintro W F G x cs ⟨A4, c4, h1, h2, h3, h4, h5⟩ hG
    exact ⟨A4, c4, h1, h2, h3, h4.mono hG, fun h0 => let ⟨gi, cur, e1, e2, e3, e4⟩ := h5 h0; ⟨gi, cur, e1, hG _ e2, e3, e4⟩⟩
  keep := by
    rintro W W1 F x cs ⟨A4, c4, h1, h2, h3, h4, h5⟩ hk
    exact ⟨A4, c4, h1, h2, h3, h4.keep hk, fun h0 => let ⟨gi, cur, e1, e2, e3, e4⟩ := h5 h0; ⟨gi, cur, e1, e2, (hk _ e2 (Array.getElem?_eq_some_iff.1 e3).1).trans e3, e4⟩⟩
  bound := by
    rintro W F x cs ⟨A4, c4, h1, h2, h3, h4, h5⟩
    exact ⟨A4, c4, h1, h2, h3, h4.bound, fun h0 => let ⟨gi, cur, e1, e2, e3, e4⟩ := h5 h0; ⟨gi, cur, e1, ⟨e2, (Array.getElem?_eq_some_iff.1 e3).1⟩, e3, e4⟩⟩
theorem RS.plainO {W : World} {F : Foot} {A : Option Addr} {n : Nat} {xs : List Entry} (h : RS kEntryO W F A n xs) : RS kEntry W F A n xs := by
  obtain ⟨h1, cs, ⟨h2, h3⟩, h4⟩ := h
  exact ⟨h1, cs, ⟨h2, fun j x hx => (h3 j x hx).plain⟩, h4⟩

set_option maxHeartbeats 2000000 in
theorem Copy_own (x : Command) (A3 : Option Addr) (c3 : Nat) (w : World) (F : Foot) (h : RS kRecord w F A3 x.Records.length x.Records) (hl : x.Records.length ≤ c3) (hm : c3 ≤ 9223372036854775807) (hn : x.Records.length ≤ 1000000000) :
    Calls Try.prog 59 #[.agg #[.int .i64 x.Kind, .int .i64 x.Pid, .int .i64 x.Seq, .slice A3 x.Records.length c3, .string x.Group, .int .i64 x.Offset, .int .i64 x.Max, .int .i64 x.Now, .int .u32 x.Sum, .int .i64 x.Conf.Segment, .int .i64 x.Conf.Keep, .int .i64 x.Conf.Age, .int .i64 x.Conf.Grace]] w fun e w' => ∃ B3 d3, e = .returned (.agg #[.int .i64 x.Kind, .int .i64 x.Pid, .int .i64 x.Seq, .slice B3 x.Records.length d3, .string x.Group, .int .i64 x.Offset, .int .i64 x.Max, .int .i64 x.Now, .int .u32 x.Sum, .int .i64 x.Conf.Segment, .int .i64 x.Conf.Keep, .int .i64 x.Conf.Age, .int .i64 x.Conf.Grace]) ∧ x.Records.length ≤ d3 ∧ d3 ≤ 9223372036854775807 ∧ RS kRecord w' (New w w') B3 x.Records.length x.Records ∧ (0 < x.Records.length → ∃ gi cur, B3 = some ⟨gi, 0, none⟩ ∧ w.heap.size ≤ gi ∧ w'.heap[gi]? = some (.cells cur 89 (0, 0)) ∧ x.Records.length * 5 ≤ cur.size) ∧ Below w.heap.size w w' := by
  go_enter Try.func59, Try.ntmps59
  have hb2 : Below w.heap.size w ((w.alloc (.cells #[.int .i64 x.Kind, .int .i64 x.Pid, .int .i64 x.Seq, .slice A3 x.Records.length c3, .string x.Group, .int .i64 x.Offset, .int .i64 x.Max, .int .i64 x.Now, .int .u32 x.Sum, .int .i64 x.Conf.Segment, .int .i64 x.Conf.Keep, .int .i64 x.Conf.Age, .int .i64 x.Conf.Grace] 36)).alloc (.cells #[.int .i64 0, .int .i64 0, .int .i64 0, .slice none 0 0, .string ⟨#[]⟩, .int .i64 0, .int .i64 0, .int .i64 0, .int .u32 0, .int .i64 0, .int .i64 0, .int .i64 0, .int .i64 0] 36)) := ((Below.refl _ _).alloc (Nat.le_refl _) _).alloc (by simp) _
  have hs2 : ((w.alloc (.cells #[.int .i64 x.Kind, .int .i64 x.Pid, .int .i64 x.Seq, .slice A3 x.Records.length c3, .string x.Group, .int .i64 x.Offset, .int .i64 x.Max, .int .i64 x.Now, .int .u32 x.Sum, .int .i64 x.Conf.Segment, .int .i64 x.Conf.Keep, .int .i64 x.Conf.Age, .int .i64 x.Conf.Grace] 36)).alloc (.cells #[.int .i64 0, .int .i64 0, .int .i64 0, .slice none 0 0, .string ⟨#[]⟩, .int .i64 0, .int .i64 0, .int .i64 0, .int .u32 0, .int .i64 0, .int .i64 0, .int .i64 0, .int .i64 0] 36)).heap.size = w.heap.size + 2 := by simp
  have hbx : ((w.alloc (.cells #[.int .i64 x.Kind, .int .i64 x.Pid, .int .i64 x.Seq, .slice A3 x.Records.length c3, .string x.Group, .int .i64 x.Offset, .int .i64 x.Max, .int .i64 x.Now, .int .u32 x.Sum, .int .i64 x.Conf.Segment, .int .i64 x.Conf.Keep, .int .i64 x.Conf.Age, .int .i64 x.Conf.Grace] 36)).alloc (.cells #[.int .i64 0, .int .i64 0, .int .i64 0, .slice none 0 0, .string ⟨#[]⟩, .int .i64 0, .int .i64 0, .int .i64 0, .int .u32 0, .int .i64 0, .int .i64 0, .int .i64 0, .int .i64 0] 36)).heap[w.heap.size]? = some (.cells #[.int .i64 x.Kind, .int .i64 x.Pid, .int .i64 x.Seq, .slice A3 x.Records.length c3, .string x.Group, .int .i64 x.Offset, .int .i64 x.Max, .int .i64 x.Now, .int .u32 x.Sum, .int .i64 x.Conf.Segment, .int .i64 x.Conf.Keep, .int .i64 x.Conf.Age, .int .i64 x.Conf.Grace] 36 (0, 0)) := (Below.heap_alloc _ _ _ (by simp)).trans (heap_alloc_new w _)
  have hbz : ((w.alloc (.cells #[.int .i64 x.Kind, .int .i64 x.Pid, .int .i64 x.Seq, .slice A3 x.Records.length c3, .string x.Group, .int .i64 x.Offset, .int .i64 x.Max, .int .i64 x.Now, .int .u32 x.Sum, .int .i64 x.Conf.Segment, .int .i64 x.Conf.Keep, .int .i64 x.Conf.Age, .int .i64 x.Conf.Grace] 36)).alloc (.cells #[.int .i64 0, .int .i64 0, .int .i64 0, .slice none 0 0, .string ⟨#[]⟩, .int .i64 0, .int .i64 0, .int .i64 0, .int .u32 0, .int .i64 0, .int .i64 0, .int .i64 0, .int .i64 0] 36)).heap[w.heap.size + 1]? = some (.cells #[.int .i64 0, .int .i64 0, .int .i64 0, .slice none 0 0, .string ⟨#[]⟩, .int .i64 0, .int .i64 0, .int .i64 0, .int .u32 0, .int .i64 0, .int .i64 0, .int .i64 0, .int .i64 0] 36 (0, 0)) := by have := heap_alloc_new (w.alloc (.cells #[.int .i64 x.Kind, .int .i64 x.Pid, .int .i64 x.Seq, .slice A3 x.Records.length c3, .string x.Group, .int .i64 x.Offset, .int .i64 x.Max, .int .i64 x.Now, .int .u32 x.Sum, .int .i64 x.Conf.Segment, .int .i64 x.Conf.Keep, .int .i64 x.Conf.Age, .int .i64 x.Conf.Grace] 36)) (.cells #[.int .i64 0, .int .i64 0, .int .i64 0, .slice none 0 0, .string ⟨#[]⟩, .int .i64 0, .int .i64 0, .int .i64 0, .int .u32 0, .int .i64 0, .int .i64 0, .int .i64 0, .int .i64 0] 36); simpa using this
  have hr2 : RS kRecord ((w.alloc (.cells #[.int .i64 x.Kind, .int .i64 x.Pid, .int .i64 x.Seq, .slice A3 x.Records.length c3, .string x.Group, .int .i64 x.Offset, .int .i64 x.Max, .int .i64 x.Now, .int .u32 x.Sum, .int .i64 x.Conf.Segment, .int .i64 x.Conf.Keep, .int .i64 x.Conf.Age, .int .i64 x.Conf.Grace] 36)).alloc (.cells #[.int .i64 0, .int .i64 0, .int .i64 0, .slice none 0 0, .string ⟨#[]⟩, .int .i64 0, .int .i64 0, .int .i64 0, .int .u32 0, .int .i64 0, .int .i64 0, .int .i64 0, .int .i64 0] 36)) (fun k => F k ∧ k < w.heap.size) A3 x.Records.length x.Records := h.bound.below hb2
  have HH := Lib.hid (And.intro hb2 (And.intro hs2 (And.intro hbx (And.intro hbz hr2))))
  clear hb2 hs2 hbx hbz
  go_wp2_with (first
    | (at_builtin
       refine wpList_append_S rfl tRecord _ (.tmp 4) rfl (K := kRecord) (F := NoF) (v := .slice none 0 0) (xs := []) rfl rfl OwnS.nil hr2 (fun k hk => by simp [Value.ownBlock] at hk) ?_ ?_ ?_))
  · simp; omega
  · simp; omega
  intro v3 w3 hA
  have hO := hA.own
  have hgr := hA.grown
  obtain ⟨hb2, hs2, hbx, hbz, _⟩ := HH.out
  have hls : ∀ k, v3.ownBlock = some k → w.heap.size + 2 ≤ k ∧ k < w3.heap.size := fun k hk => by
    rcases hA.lies k hk with h | h
    · simp [Value.ownBlock] at h
    · have := h.1; have := h.2; omega
  have hO3 : OwnS kRecord 89 w3 (fun k => w.heap.size + 2 ≤ k ∧ k < w3.heap.size) v3 x.Records := hO.flat flat_Record hls
  obtain ⟨B3, d3, rfl, hd1, hd2, hr3⟩ := hO3.reads
  have hex : 0 < x.Records.length → ∃ gi cur, B3 = some ⟨gi, 0, none⟩ ∧ w.heap.size + 2 ≤ gi ∧ w3.heap[gi]? = some (.cells cur 89 (0, 0)) ∧ x.Records.length * 5 ≤ cur.size := fun h0 => by
    obtain ⟨gi, cur, e1, e2, e3, e4⟩ := hO3.blockOf h0
    exact ⟨gi, cur, e1, e2.1, e3, e4⟩
  have Hex := Lib.hid hex
  clear hex
  have hb3 : Below w.heap.size w w3 := hb2.grown hgr (by omega) (by simp [Value.ownBlock])
  have hbx3 := (hgr.block w.heap.size (by omega) (by simp [Value.ownBlock])).trans hbx
  have hbz3 := (hgr.block (w.heap.size + 1) (by omega) (by simp [Value.ownBlock])).trans hbz
  clear hA hO hgr hls hO3 hr2 HH hb2 hbx hbz
  generalize hb : w.heap.size = b at hb3 Hex hbx3 hbz3 hr3 hs2 ⊢
  obtain ⟨qc0, qc1, qc2, qc3, qc4, qc5, qc6, qc7, qc8, qc9, qc10, qc11, qc12, qf0, qf1, qf2, qf3, qf4, qf5, qf6, qf7, qf8, qf9, qf10, qf11, qf12⟩ := box13 hbx3
  have Hx3 := Lib.hid (And.intro hbx3 hbz3)
  clear hbx3
  obtain ⟨rc0, rc1, rc2, rc3, rc4, rc5, rc6, rc7, rc8, rc9, rc10, rc11, rc12, rf0, rf1, rf2, rf3, rf4, rf5, rf6, rf7, rf8, rf9, rf10, rf11, rf12⟩ := box13 hbz3
  clear hbz3
  obtain ⟨hbx3, hbz3⟩ := Hx3.out
  have hbx4 : (w3.setCell ⟨b, 3, none⟩ (.slice B3 x.Records.length d3)).heap[b]? = some (.cells #[.int .i64 x.Kind, .int .i64 x.Pid, .int .i64 x.Seq, .slice B3 x.Records.length d3, .string x.Group, .int .i64 x.Offset, .int .i64 x.Max, .int .i64 x.Now, .int .u32 x.Sum, .int .i64 x.Conf.Segment, .int .i64 x.Conf.Keep, .int .i64 x.Conf.Age, .int .i64 x.Conf.Grace] 36 (0, 0)) := (heap_setCell_same w3 b 3 _ _ _ hbx3).trans rfl
  have hbz4 : (w3.setCell ⟨b, 3, none⟩ (.slice B3 x.Records.length d3)).heap[b + 1]? = some (.cells #[.int .i64 0, .int .i64 0, .int .i64 0, .slice none 0 0, .string ⟨#[]⟩, .int .i64 0, .int .i64 0, .int .i64 0, .int .u32 0, .int .i64 0, .int .i64 0, .int .i64 0, .int .i64 0] 36 (0, 0)) := (Below.heap_setCell _ _ _ _ (by simp)).trans hbz3
  have hb4 : Below b w (w3.setCell ⟨b, 3, none⟩ (.slice B3 x.Records.length d3)) := hb3.setCell (p := ⟨b, 3, none⟩) (Nat.le_refl _) _
  have hr4 : RS kRecord (w3.setCell ⟨b, 3, none⟩ (.slice B3 x.Records.length d3)) (fun k => b + 2 ≤ k ∧ k < w3.heap.size) B3 x.Records.length x.Records := hr3.far (p := ⟨b, 3, none⟩) (fun hk => by have := hk.1; simp only at this; omega) _
  have hs4 : (w3.setCell ⟨b, 3, none⟩ (.slice B3 x.Records.length d3)).heap.size = w3.heap.size := World.size_setCell ..
  have hH := Lib.hid (And.intro hbx4 (And.intro hbz4 (And.intro hb4 (And.intro hr4 hs4))))
  clear hbx4 hbz4 hb4 hr4 hs4 hbx3 hbz3
  go_wp2_with fail
  obtain ⟨hbx4, hbz4, hb4, hr4, hs4⟩ := hH.out
  have hex4 : ∀ gi, gi ≠ b → (w3.setCell ⟨b, 3, none⟩ (.slice B3 x.Records.length d3)).heap[gi]? = w3.heap[gi]? := fun gi hne => Below.heap_setCell _ _ _ _ (by simpa using hne)
  generalize w3.setCell ⟨b, 3, none⟩ (.slice B3 x.Records.length d3) = w4 at hex4 hbx4 hbz4 hb4 hr4 hs4 ⊢
  obtain ⟨hw1, hw2⟩ := set13 w4 (b + 1) _ _ _ _ _ _ _ _ _ _ _ _ _ _ hbz4 (.int .i64 x.Kind) (.int .i64 x.Pid) (.int .i64 x.Seq) (.slice B3 x.Records.length d3) (.string x.Group) (.int .i64 x.Offset) (.int .i64 x.Max) (.int .i64 x.Now) (.int .u32 x.Sum) (.int .i64 x.Conf.Segment) (.int .i64 x.Conf.Keep) (.int .i64 x.Conf.Age) (.int .i64 x.Conf.Grace)
  generalize (((((((((((((w4.setCell ⟨b + 1, 0, none⟩ (.int .i64 x.Kind)).setCell ⟨b + 1, 1, none⟩ (.int .i64 x.Pid)).setCell ⟨b + 1, 2, none⟩ (.int .i64 x.Seq)).setCell ⟨b + 1, 3, none⟩ (.slice B3 x.Records.length d3)).setCell ⟨b + 1, 4, none⟩ (.string x.Group)).setCell ⟨b + 1, 5, none⟩ (.int .i64 x.Offset)).setCell ⟨b + 1, 6, none⟩ (.int .i64 x.Max)).setCell ⟨b + 1, 7, none⟩ (.int .i64 x.Now)).setCell ⟨b + 1, 8, none⟩ (.int .u32 x.Sum)).setCell ⟨b + 1, 9, none⟩ (.int .i64 x.Conf.Segment)).setCell ⟨b + 1, 10, none⟩ (.int .i64 x.Conf.Keep)).setCell ⟨b + 1, 11, none⟩ (.int .i64 x.Conf.Age)).setCell ⟨b + 1, 12, none⟩ (.int .i64 x.Conf.Grace)) = w5 at hw1 hw2 ⊢
  obtain ⟨sc0, sc1, sc2, sc3, sc4, sc5, sc6, sc7, sc8, sc9, sc10, sc11, sc12, sf0, sf1, sf2, sf3, sf4, sf5, sf6, sf7, sf8, sf9, sf10, sf11, sf12⟩ := box13 hw1
  have hb5 : Below b w w5 := hb4.trans (hb ▸ Keeps.below_of (a := w) hw2 hb4.size (fun k hk => by have : k = b + 1 := hk; omega))
  refine bodyPost_ret (v := .agg #[.int .i64 x.Kind, .int .i64 x.Pid, .int .i64 x.Seq, .slice B3 x.Records.length d3, .string x.Group, .int .i64 x.Offset, .int .i64 x.Max, .int .i64 x.Now, .int .u32 x.Sum, .int .i64 x.Conf.Segment, .int .i64 x.Conf.Keep, .int .i64 x.Conf.Age, .int .i64 x.Conf.Grace]) (by simp [results, Try.results59, go_sem, sc0, sc1, sc2, sc3, sc4, sc5, sc6, sc7, sc8, sc9, sc10, sc11, sc12]) rfl ⟨_, _, rfl, hd1, hd2, ?_, fun h0 => ?_, by rw [hb]; exact hb5⟩
  · refine (hr4.keeps hw2 fun k hk hy => ?_).mono fun k hk => ?_
    · have := hk.1; have : k = b + 1 := hy; omega
    · have := hk.1; have := hk.2; have := hw2.size; exact ⟨by omega, by omega⟩
  · obtain ⟨gi, cur, e1, e2, e3, e4⟩ := Hex.out h0
    have hgw := (Array.getElem?_eq_some_iff.1 e3).1
    refine ⟨gi, cur, e1, by omega, ?_, e4⟩
    refine (hw2.block gi (by omega) (fun h => by have : gi = b + 1 := h; omega)).trans ?_
    rw [← e3]
    exact hex4 gi (by omega)

set_option maxHeartbeats 4000000 in
theorem CopyEntries_own (A : Option Addr) (n c : Nat) (w : World) (F : Foot) (xs : List Entry) (h : RS kEntry w F A n xs) (hn : n ≤ 1000000000) (hr : ∀ x ∈ xs, x.Cmd.Records.length ≤ 1000000000) :
    Calls Try.prog 47 #[.slice A n c] w fun e w' => ∃ v, e = .returned v ∧ Made kEntryO 38 w w' (New w w') v xs := by
  obtain rfl := h.length
  go_enter Try.func47, Try.ntmps47
  go_wp2_with fail
  go_loopw [3, 4] (fun v q wr => ∃ k : Nat, q = .int .i64 k ∧ k ≤ xs.length ∧ OwnS kEntryO 38 wr (New w wr) v (xs.take k) ∧ Below w.heap.size w wr) (fun v q _ => xs.length - (intOf q).toNat)
  case atStart => exact ⟨0, rfl, Nat.zero_le _, OwnS.nil, Below.refl _ _⟩
  case round =>
    obtain ⟨k, rfl, hk, hO, hB⟩ := hrel
    obtain ⟨A5, n5, c5, rfl⟩ := hO.shape
    by_cases hlk : k < xs.length
    · obtain ⟨x, hx⟩ : ∃ x, xs[k]? = some x := ⟨_, List.getElem?_eq_getElem hlk⟩
      have hxr := hr x (List.mem_of_getElem? hx)
      obtain ⟨ad, A4, c4, hA0, hFa, k0, k1, k2, k3, k4, k5, k6, k7, k8, k9, k10, k11, k12, k13, l4, m4, r4⟩ := at_Entry (h.bound.below hB) hx
      subst hA0
      have Hx := Lib.hid hx
      clear hx
      have hal : (ad.add (k * 14)).block < wr.heap.size := World.block_lt_of_cell? wr _ k0
      have hNF : ¬ NoF (ad.add (k * 14)).block := id
      have hlist : xs.take k ++ [x] = xs.take (k + 1) := by rw [List.take_add_one, Hx.out]; rfl
      have Hlist := Lib.hid hlist
      clear hlist
      have hkl : (xs.take k).length = k := by rw [List.length_take]; omega
      have hsr := hB.size
      go_wp2_with fail
      obtain ⟨B, HB⟩ : ∃ B : Foot, Hid (∀ k, B k ↔ (Value.slice A5 n5 c5).ownBlock = some k) := ⟨_, fun _ => Iff.rfl⟩
      have hBa : ¬ B (ad.add (k * 14)).block := fun hb => by
        have h1 := (hO.lt _ ((HB.out _).1 hb)).1.1
        have h2 : ad.block < w.heap.size := hFa.2
        rw [block_add] at h1
        omega
      refine wp_region_plan [0, 0, 0, 0, 0, 0, 0, 0, 0, 0, 0, 1, 1, 1, 1, 1] (fun w' => ∃ D : Same B wr, w' = D.world) (by kernel_rfl) (by kernel_rfl) InSame.start ?_
      simp only [sel, selE, Nat.reduceEqDiff, reduceIte]
      repeat (go_big_quiet_step (fail))
      refine wpQuiet_nil ?_
      refine wpE_cons (fun N hN => ?_)
      go_wp2_with fail
      refine (Copy_own x.Cmd A4 c4 _ _ r4.drew l4 m4 (by omega)).mono ?_
      rintro e w1 ⟨qA4, qc4, rfl, hd1, hd2, hr1, hx1, hb1'⟩
      have hb1 : Below wr.heap.size wr w1 := below_undrew hb1'
      go_wp2
      refine hN _ _ (InSame.of_below hb1) ?_
      clear hN N
      refine wpE_cons (fun N hN => ?_)
      go_wp2
      refine hN _ _ (InSame.of_below hb1) ?_
      clear hN N
      refine wpE_cons (fun N hN => ?_)
      go_wp2
      have hr2 : RS kEntryO (w1.alloc (.cells #[.int .i64 x.Term, .int .i64 x.Cmd.Kind, .int .i64 x.Cmd.Pid, .int .i64 x.Cmd.Seq, .slice qA4 x.Cmd.Records.length qc4, .string x.Cmd.Group, .int .i64 x.Cmd.Offset, .int .i64 x.Cmd.Max, .int .i64 x.Cmd.Now, .int .u32 x.Cmd.Sum, .int .i64 x.Cmd.Conf.Segment, .int .i64 x.Cmd.Conf.Keep, .int .i64 x.Cmd.Conf.Age, .int .i64 x.Cmd.Conf.Grace] 38)) (fun k => New wr.drew w1 k ∨ k = w1.heap.size) (some ⟨w1.heap.size, 0, none⟩) 1 [x] :=
        RS.lit w1 (xs := [x]) (Elems.single (K := kEntryO) ⟨qA4, qc4, rfl, hd1, hd2, hr1, fun h0 => by
          obtain ⟨gi, cur, e1, e2, e3, e4⟩ := hx1 h0
          exact ⟨gi, cur, e1, ⟨e2, (Array.getElem?_eq_some_iff.1 e3).1⟩, e3, e4⟩⟩)
      have hb2 : Below wr.heap.size wr (w1.alloc (.cells #[.int .i64 x.Term, .int .i64 x.Cmd.Kind, .int .i64 x.Cmd.Pid, .int .i64 x.Cmd.Seq, .slice qA4 x.Cmd.Records.length qc4, .string x.Cmd.Group, .int .i64 x.Cmd.Offset, .int .i64 x.Cmd.Max, .int .i64 x.Cmd.Now, .int .u32 x.Cmd.Sum, .int .i64 x.Cmd.Conf.Segment, .int .i64 x.Cmd.Conf.Keep, .int .i64 x.Cmd.Conf.Age, .int .i64 x.Cmd.Conf.Grace] 38)) := hb1.alloc hb1.size _
      have hs2 : (w1.alloc (.cells #[.int .i64 x.Term, .int .i64 x.Cmd.Kind, .int .i64 x.Cmd.Pid, .int .i64 x.Cmd.Seq, .slice qA4 x.Cmd.Records.length qc4, .string x.Cmd.Group, .int .i64 x.Cmd.Offset, .int .i64 x.Cmd.Max, .int .i64 x.Cmd.Now, .int .u32 x.Cmd.Sum, .int .i64 x.Cmd.Conf.Segment, .int .i64 x.Cmd.Conf.Keep, .int .i64 x.Cmd.Conf.Age, .int .i64 x.Cmd.Conf.Grace] 38)).heap.size = w1.heap.size + 1 := by simp
      refine hN _ _ (InSame.of_below hb2) ?_
      have hs1 := hb1.size
      generalize (w1.alloc (.cells #[.int .i64 x.Term, .int .i64 x.Cmd.Kind, .int .i64 x.Cmd.Pid, .int .i64 x.Cmd.Seq, .slice qA4 x.Cmd.Records.length qc4, .string x.Cmd.Group, .int .i64 x.Cmd.Offset, .int .i64 x.Cmd.Max, .int .i64 x.Cmd.Now, .int .u32 x.Cmd.Sum, .int .i64 x.Cmd.Conf.Segment, .int .i64 x.Cmd.Conf.Keep, .int .i64 x.Cmd.Conf.Age, .int .i64 x.Cmd.Conf.Grace] 38)) = w2 at hb2 hr2 hs2 ⊢
      clear hN N
      refine wpE_cons (fun N hN => ?_)
      go_wp2_with (first
        | (at_builtin
           refine wpList_append_S rfl tEntry (.tmp 11) (.tmp 24) rfl (K := kEntryO) rfl rfl (hO.below hb2) hr2 ?_ ?_ ?_ ?_))
      · intro x hx hx2
        have h1 := (hO.lt x hx).2
        rcases hx2 with hx2 | hx2
        · have : wr.heap.size ≤ x := hx2.1
          omega
        · omega
      · rw [hkl]; omega
      · rw [hkl]; omega
      intro v4 w4 hA
      obtain ⟨A7, n7, c7, rfl⟩ := hA.own.shape
      have hs4 := hA.grown.size
      have hb4 : Below w.heap.size w w4 := (hB.trans (hb2.mono hB.size)).grown hA.grown (by omega) (fun x hx => (hO.lt x hx).1.1)
      have hO4 : OwnS kEntryO 38 w4 (New w w4) (.slice A7 n7 c7) (xs.take (k + 1)) := by
        rw [← Hlist.out]
        refine hA.own.mono fun x hx => ?_
        rcases hx with hx | hx | hx
        · exact ⟨hx.1, by have := hx.2; omega⟩
        · rcases hx with hx | hx
          · have : wr.heap.size ≤ x := hx.1
            have := hx.2; exact ⟨by omega, by omega⟩
          · exact ⟨by omega, by omega⟩
        · have := hx.1; have := hx.2; exact ⟨by omega, by omega⟩
      have hS4 : InSame B wr w4 := ⟨⟨w4, fun k hk hn => (hA.grown.block k (by omega) (fun e => hn ((HB.out k).2 e.symm))).trans (hb2.block k hk)⟩, rfl⟩
      clear hA
      go_wp2
      refine hN _ _ hS4 ?_
      clear hN N
      refine wpE_cons (fun N hN => ?_)
      go_wp2
      refine hN _ _ hS4 ?_
      refine wpE_nil ?_
      clear hN N
      go_wp2
      go_roundw
      case rel => exact ⟨k + 1, by go_num, by omega, hO4, hb4⟩
      case measure => simp [intOf]; omega
    · obtain rfl : k = xs.length := by omega
      rw [List.take_of_length_le (Nat.le_refl _)] at hO
      go_wp2
      go_ret
      exact ⟨_, rfl, hO, fun x hx => (hO.lt x hx).1.1, hB⟩
end Go.Proofs.Ytngmipppgnlkdaa
