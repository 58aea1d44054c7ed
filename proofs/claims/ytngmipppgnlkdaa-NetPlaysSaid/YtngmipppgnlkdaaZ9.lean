/- Contracts of both Nets' Take, Drop and Twice, whatever is there. -/
import Derived.Test.YtngmipppgnlkdaaZ8
set_option linter.unusedVariables false
set_option linter.unusedSimpArgs false
namespace Go.Proofs.Ytngmipppgnlkdaa
open Go.RowKit
attribute [local go_sem] Same.cell

def zeroMsg : Message := ⟨0, 0, 0, 0, 0, 0, [], 0, false, 0, []⟩
theorem zeroMsg_fits : zeroMsg.Fits := ⟨by simp [zeroMsg], by simp [zeroMsg], fun x hx => by simp [zeroMsg] at hx⟩
def netTake (l : List Message) (i : Int) : Message × Bool × List Message :=
  if l.length = 0 then (zeroMsg, false, l) else (l.getD (netIx i l.length) zeroMsg, true, l.eraseIdx (netIx i l.length))
def netTwice (l : List Message) (i : Int) : Bool × List Message :=
  if l.length = 0 then (false, l) else (true, netAdd l [l.getD (netIx i l.length) zeroMsg])
theorem netTake_len {l l' : List Message} {i : Int} {m : Message} {b : Bool} (h : netTake l i = (m, b, l')) : l'.length ≤ l.length := by
  unfold netTake at h
  split at h <;> simp only [Prod.mk.injEq] at h <;> obtain ⟨_, _, rfl⟩ := h
  · exact Nat.le_refl _
  · rw [List.length_eraseIdx]; split <;> omega
theorem netTake_fits {l l' : List Message} {i : Int} {m : Message} {b : Bool} (h : netTake l i = (m, b, l')) (hl : ∀ m ∈ l, m.Fits) : m.Fits ∧ ∀ m ∈ l', m.Fits := by
  unfold netTake at h
  split at h <;> simp only [Prod.mk.injEq] at h <;> obtain ⟨rfl, _, rfl⟩ := h
  · exact ⟨zeroMsg_fits, hl⟩
  · rename_i h0
    have hk := netIx_lt i l.length (by omega)
    refine ⟨?_, fun m hm => hl m (List.mem_of_mem_eraseIdx hm)⟩
    rw [List.getD_eq_getElem?_getD, List.getElem?_eq_getElem hk]
    exact hl _ (List.getElem_mem hk)
theorem netTwice_ok {l l' : List Message} {i : Int} {b : Bool} (h : netTwice l i = (b, l')) (hn : l.length ≤ 10000) (hl : ∀ m ∈ l, m.Fits) : l'.length ≤ 10000 ∧ ∀ m ∈ l', m.Fits := by
  unfold netTwice at h
  split at h <;> simp only [Prod.mk.injEq] at h <;> obtain ⟨_, rfl⟩ := h
  · exact ⟨hn, hl⟩
  · rename_i h0
    have hk := netIx_lt i l.length (by omega)
    refine ⟨netAdd_len _ _ hn, ?_⟩
    unfold netAdd netAdd
    have : l.getD (netIx i l.length) zeroMsg ∈ l := by
      rw [List.getD_eq_getElem?_getD, List.getElem?_eq_getElem hk]
      exact List.getElem_mem hk
    split
    · intro m hm
      rcases List.mem_append.1 hm with hm | hm
      · exact hl m hm
      · rw [List.mem_singleton] at hm; subst hm; exact hl _ this
    · exact hl

section
variable (g : Nat) (F : Foot) (l : List Message) (w : World) (i : Int) (hn : l.length ≤ 10000)
include hn

theorem Take_all {m : Message} {b : Bool} {l' : List Message} (h : NetAt w g F l) (ht : netTake l i = (m, b, l')) :
    Calls Try.prog 21 #[.pointer (some ⟨g, 0, none⟩), .int .i64 i] w fun e w' => ∃ A6 c6 A10 c10, e = .returned (.tuple #[.agg #[.int .i64 m.Kind, .int .i64 m.From, .int .i64 m.To, .int .i64 m.Term, .int .i64 m.Last, .int .i64 m.LastTerm, .slice A6 m.Entries.length c6, .int .i64 m.Commit, .bool m.OK, .int .i64 m.Match, .slice A10 m.Data.length c10], .bool b]) ∧
      NetAt w' g (Grow F w w') l' ∧ MsgAt w' (Grow F w w') m A6 c6 A10 c10 ∧ Keeps F w w' := by
  unfold netTake at ht
  split at ht <;> rename_i h0 <;> simp only [Prod.mk.injEq] at ht <;> obtain ⟨rfl, rfl, rfl⟩ := ht
  · obtain rfl := List.eq_nil_of_length_eq_zero h0
    refine (Take_none g F w i h).mono ?_
    rintro e w' ⟨rfl, hb⟩
    exact ⟨none, 0, none, 0, rfl, (h.below hb).mono fun k hk => .inl hk, ⟨Nat.le_refl _, by omega, RS.nil, Nat.le_refl _, by omega, RS.nil⟩, Keeps.of_below hb F⟩
  · have hk := netIx_lt i l.length (by omega)
    refine (Take_any g F l w i h (by omega) (m := l.getD (netIx i l.length) zeroMsg) (by rw [List.getD_eq_getElem?_getD, List.getElem?_eq_getElem hk]; rfl)).mono ?_
    rintro e w' ⟨A6, c6, A10, c10, rfl, hN, hM, hK⟩
    exact ⟨_, _, _, _, rfl, hN.mono fun k hk => .inl hk, hM.mono fun k hk => .inl hk, hK⟩
theorem RefTake_all {m : Message} {b : Bool} {l' : List Message} (h : RefAt w g F l) (ht : netTake l i = (m, b, l')) :
    Calls Try.prog 28 #[.pointer (some ⟨g, 0, none⟩), .int .i64 i] w fun e w' => ∃ A6 c6 A10 c10, e = .returned (.tuple #[.agg #[.int .i64 m.Kind, .int .i64 m.From, .int .i64 m.To, .int .i64 m.Term, .int .i64 m.Last, .int .i64 m.LastTerm, .slice A6 m.Entries.length c6, .int .i64 m.Commit, .bool m.OK, .int .i64 m.Match, .slice A10 m.Data.length c10], .bool b]) ∧
      RefAt w' g (Grow F w w') l' ∧ MsgAt w' (Grow F w w') m A6 c6 A10 c10 ∧ Keeps F w w' := by
  unfold netTake at ht
  split at ht <;> rename_i h0 <;> simp only [Prod.mk.injEq] at ht <;> obtain ⟨rfl, rfl, rfl⟩ := ht
  · obtain rfl := List.eq_nil_of_length_eq_zero h0
    refine (RefTake_none g F w i h).mono ?_
    rintro e w' ⟨rfl, hb⟩
    exact ⟨none, 0, none, 0, rfl, (h.below hb).mono fun k hk => .inl hk, ⟨Nat.le_refl _, by omega, RS.nil, Nat.le_refl _, by omega, RS.nil⟩, Keeps.of_below hb F⟩
  · have hk := netIx_lt i l.length (by omega)
    refine (RefTake_any g F l w i h (by omega) (m := l.getD (netIx i l.length) zeroMsg) (by rw [List.getD_eq_getElem?_getD, List.getElem?_eq_getElem hk]; rfl)).mono ?_
    rintro e w' ⟨A6, c6, A10, c10, rfl, hN, hM, hK⟩
    exact ⟨_, _, _, _, rfl, hN, hM.mono fun k hk => .inl hk, hK⟩
theorem Drop_all {m : Message} {b : Bool} {l' : List Message} (h : NetAt w g F l) (ht : netTake l i = (m, b, l')) :
    Calls Try.prog 25 #[.pointer (some ⟨g, 0, none⟩), .int .i64 i] w fun e w' => e = .returned (.bool b) ∧ NetAt w' g (Grow F w w') l' ∧ Keeps F w w' := by
  unfold netTake at ht
  split at ht <;> rename_i h0 <;> simp only [Prod.mk.injEq] at ht <;> obtain ⟨rfl, rfl, rfl⟩ := ht
  · obtain rfl := List.eq_nil_of_length_eq_zero h0
    refine (Drop_none g F w i h).mono ?_
    rintro e w' ⟨rfl, hb⟩
    exact ⟨rfl, (h.below hb).mono fun k hk => .inl hk, Keeps.of_below hb F⟩
  · refine (Drop_any g F l w i h (by omega) (by omega)).mono ?_
    rintro e w' ⟨rfl, hN, hK⟩
    exact ⟨rfl, hN.mono fun k hk => .inl hk, hK⟩
theorem RefDrop_all {m : Message} {b : Bool} {l' : List Message} (h : RefAt w g F l) (ht : netTake l i = (m, b, l')) :
    Calls Try.prog 30 #[.pointer (some ⟨g, 0, none⟩), .int .i64 i] w fun e w' => e = .returned (.bool b) ∧ RefAt w' g (Grow F w w') l' ∧ Keeps F w w' := by
  unfold netTake at ht
  split at ht <;> rename_i h0 <;> simp only [Prod.mk.injEq] at ht <;> obtain ⟨rfl, rfl, rfl⟩ := ht
  · obtain rfl := List.eq_nil_of_length_eq_zero h0
    refine (RefDrop_none g F w i h).mono ?_
    rintro e w' ⟨rfl, hb⟩
    exact ⟨rfl, (h.below hb).mono fun k hk => .inl hk, Keeps.of_below hb F⟩
  · refine (RefDrop_any g F l w i h (by omega) (by omega)).mono ?_
    rintro e w' ⟨rfl, hN, hK⟩
    exact ⟨rfl, hN, hK⟩
theorem Twice_all {b : Bool} {l' : List Message} (h : NetAt w g F l) (hf : ∀ m ∈ l, m.Fits) (ht : netTwice l i = (b, l')) :
    Calls Try.prog 23 #[.pointer (some ⟨g, 0, none⟩), .int .i64 i] w fun e w' => e = .returned (.bool b) ∧ NetAt w' g (Grow F w w') l' ∧ Keeps F w w' := by
  unfold netTwice at ht
  split at ht <;> rename_i h0 <;> simp only [Prod.mk.injEq] at ht <;> obtain ⟨rfl, rfl⟩ := ht
  · obtain rfl := List.eq_nil_of_length_eq_zero h0
    refine (Twice_none g F w i h).mono ?_
    rintro e w' ⟨rfl, rfl⟩
    exact ⟨rfl, h.mono fun k hk => .inl hk, Keeps.refl F w'⟩
  · have hk := netIx_lt i l.length (by omega)
    exact Twice_any g F l w i h hn hf (by rw [List.getD_eq_getElem?_getD, List.getElem?_eq_getElem hk]; rfl)
theorem RefTwice_all {b : Bool} {l' : List Message} (h : RefAt w g F l) (hf : ∀ m ∈ l, m.Fits) (ht : netTwice l i = (b, l')) :
    Calls Try.prog 31 #[.pointer (some ⟨g, 0, none⟩), .int .i64 i] w fun e w' => e = .returned (.bool b) ∧ RefAt w' g (Grow F w w') l' ∧ Keeps F w w' := by
  unfold netTwice at ht
  split at ht <;> rename_i h0 <;> simp only [Prod.mk.injEq] at ht <;> obtain ⟨rfl, rfl⟩ := ht
  · obtain rfl := List.eq_nil_of_length_eq_zero h0
    refine (RefTwice_none g F w i h).mono ?_
    rintro e w' ⟨rfl, rfl⟩
    exact ⟨rfl, h.mono fun k hk => .inl hk, Keeps.refl F w'⟩
  · have hk := netIx_lt i l.length (by omega)
    exact RefTwice_any g F l w i h hn hf (by rw [List.getD_eq_getElem?_getD, List.getElem?_eq_getElem hk]; rfl)
end
end Go.Proofs.Ytngmipppgnlkdaa
