/- Contracts of raftlog.Log's methods. -/
import Derived.Test.YtikpbhhnllchmaaLA
set_option linter.unusedVariables false
set_option linter.unusedSimpArgs false
namespace Go.Proofs.Ytikpbhhnllchmaa
open Go.RowKit
attribute [local go_sem ↓] Go.wp_at_zero Go.wp_at_succ

/-- What a Log holds. -/
structure LogS where
  base : Int
  term : Int
  l : List Entry
def LogS.last (s : LogS) : Int := s.base + s.l.length
/-- A Log at block g; all that it leads to lies in F. -/
def LogAt (W : World) (g : Nat) (F : Foot) (s : LogS) : Prop :=
  ∃ v, W.heap[g]? = some (.cells #[.int .i64 s.base, .int .i64 s.term, v] 65 (0, 0)) ∧ F g ∧ OwnS kEntry 43 W (fun k => F k ∧ k ≠ g) v s.l
structure LogS.Ok (s : LogS) : Prop where
  b0 : 0 ≤ s.base
  b1 : s.base ≤ 1152921504606846976
  l1 : s.l.length ≤ 1000000000
  r1 : ∀ x ∈ s.l, x.Cmd.Records.length ≤ 1000000000

section
variable {W W' : World} {g : Nat} {F G : Foot} {s : LogS}
theorem LogAt.lt (h : LogAt W g F s) : g < W.heap.size := by
  obtain ⟨v, hb, _⟩ := h
  exact (Array.getElem?_eq_some_iff.1 hb).1
theorem LogAt.mono (h : LogAt W g F s) (hG : ∀ k, F k → G k) : LogAt W g G s := by
  obtain ⟨v, hb, hf, ho⟩ := h
  exact ⟨v, hb, hG _ hf, ho.mono fun k hk => ⟨hG k hk.1, hk.2⟩⟩
theorem LogAt.keep (h : LogAt W g F s) (hs : W.heap.size ≤ W'.heap.size) (hk : ∀ k, F k → k < W.heap.size → W'.heap[k]? = W.heap[k]?) : LogAt W' g F s := by
  have hlt := h.lt
  obtain ⟨v, hb, hf, ho⟩ := h
  exact ⟨v, (hk g hf hlt).trans hb, hf, ho.keep hs fun k hk' hlt' => hk k hk'.1 hlt'⟩
theorem LogAt.keeps {S : Foot} (h : LogAt W g F s) (hk : Keeps S W W') (ha : Apart F S) : LogAt W' g F s := h.keep hk.size fun k hf hlt => hk.block k hlt (ha k hf)
theorem LogAt.below (h : LogAt W g F s) (hk : Below W.heap.size W W') : LogAt W' g F s := h.keep hk.size fun k _ hlt => hk.block k hlt
theorem LogAt.drewN (h : LogAt W g F s) (n : Nat) : LogAt (W.drewN n) g F s := h.keep (Nat.le_refl _) fun _ _ _ => rfl
theorem LogAt.drew (h : LogAt W g F s) : LogAt W.drew g F s := h.keep (Nat.le_refl _) fun _ _ _ => rfl
theorem LogAt.alloc (h : LogAt W g F s) (o : Obj) : LogAt (W.alloc o) g F s := h.keep (by simp) fun _ _ hlt => Below.heap_alloc _ _ _ hlt
/-- Its cells. -/
theorem LogAt.cells (h : LogAt W g F s) : ∃ A c, W.cell? ⟨g, 0, none⟩ = some (.int .i64 s.base) ∧ W.cell? ⟨g, 1, none⟩ = some (.int .i64 s.term) ∧ W.cell? ⟨g, 2, none⟩ = some (.slice A s.l.length c) ∧
    (∀ j, W.frozen? ⟨g, j, none⟩ = false) ∧ F g ∧ g < W.heap.size ∧ OwnS kEntry 43 W (fun k => F k ∧ k ≠ g) (.slice A s.l.length c) s.l ∧ s.l.length ≤ c ∧ c ≤ 9223372036854775807 ∧ RS kEntry W (fun k => F k ∧ k ≠ g) A s.l.length s.l ∧ W.heap[g]? = some (.cells #[.int .i64 s.base, .int .i64 s.term, .slice A s.l.length c] 65 (0, 0)) := by
  have hlt := h.lt
  obtain ⟨v, hb, hf, ho⟩ := h
  obtain ⟨A, c, rfl, h1, h2, h3⟩ := ho.reads
  exact ⟨A, c, cell_of_row W g 0 _ _ _ hb, cell_of_row W g 1 _ _ _ hb, cell_of_row W g 2 _ _ _ hb, fun j => frozen_of_row W g j _ _ hb, hf, hlt, ho, h1, h2, h3, hb⟩
theorem LogAt.store {b t : Int} {l : List Entry} {v0 v : Value} (hb : W.heap[g]? = some (.cells #[.int .i64 b, .int .i64 t, v0] 65 (0, 0))) (hF : F g) (ho : OwnS kEntry 43 W (fun k => F k ∧ k ≠ g) v l) : LogAt (W.setCell ⟨g, 2, none⟩ v) g F ⟨b, t, l⟩ := by
  refine ⟨v, (heap_setCell_same W g 2 _ _ v hb).trans rfl, hF, ho.keep (by simp) fun k hk _ => Below.heap_setCell _ _ _ _ hk.2⟩
end

theorem last_any (g : Nat) (F : Foot) (s : LogS) (w : World) (h : LogAt w g F s) (ok : s.Ok) :
    Calls Try.prog 40 #[.pointer (some ⟨g, 0, none⟩)] w fun e w' => e = .returned (.int .i64 s.last) ∧ ∃ k, w' = w.drewN k := by
  obtain ⟨A, c, h0, h1, h2, hfz, hF, hlt, ho, hc1, hc2, hr, _⟩ := h.cells
  have b0 := ok.b0
  have b1 := ok.b1
  have l1 := ok.l1
  go_enter Try.func40, Try.ntmps40
  go_wp2
  go_quiet (fail)
  go_wp2
  go_ret
  exact ⟨rfl, _, rfl⟩

theorem Base_any (g : Nat) (F : Foot) (s : LogS) (w : World) (h : LogAt w g F s) :
    Calls Try.prog 42 #[.pointer (some ⟨g, 0, none⟩)] w fun e w' => e = .returned (.tuple #[.int .i64 s.base, .int .i64 s.term]) ∧ ∃ k, w' = w.drewN k := by
  obtain ⟨A, c, h0, h1, h2, hfz, hF, hlt, ho, hc1, hc2, hr, _⟩ := h.cells
  go_enter Try.func42, Try.ntmps42
  go_wp2
  go_quiet (fail)
  go_wp2
  go_ret2
  exact ⟨rfl, _, rfl⟩

def LogS.Term (s : LogS) (i : Int) : Int × Bool :=
  if i < s.base ∨ s.last < i then (0, false) else if i = s.base then (s.term, true) else ((s.l[(i - s.base - 1).toNat]?.map (·.Term)).getD 0, true)

set_option maxHeartbeats 400000 in
theorem Term_any (g : Nat) (F : Foot) (s : LogS) (w : World) (i : Int) (h : LogAt w g F s) (ok : s.Ok) :
    Calls Try.prog 48 #[.pointer (some ⟨g, 0, none⟩), .int .i64 i] w fun e w' => e = .returned (.tuple #[.int .i64 (s.Term i).1, .bool (s.Term i).2]) ∧ ∃ k, w' = w.drewN k := by
  obtain ⟨A, c, h0, h1, h2, hfz, hF, hlt, ho, hc1, hc2, hr, _⟩ := h.cells
  have b0 := ok.b0
  have b1 := ok.b1
  have l1 := ok.l1
  by_cases c1 : i < s.base
  · have hT : s.Term i = (0, false) := by unfold LogS.Term; rw [if_pos (.inl c1)]
    rw [hT]
    go_enter Try.func48, Try.ntmps48
    go_wp2
    go_ret2
    exact ⟨rfl, 0, rfl⟩
  have L := Lib.hid (show s.last = s.base + s.l.length from rfl)
  by_cases c2 : s.last < i
  · have hT : s.Term i = (0, false) := by unfold LogS.Term; rw [if_pos (.inr c2)]
    rw [hT]
    go_enter Try.func48, Try.ntmps48
    go_wp2_with (go_at_call 40; refine (last_any _ _ _ _ h ok).mono ?_; rintro e w' ⟨rfl, k, rfl⟩)
    go_ret2
    exact ⟨rfl, k, rfl⟩
  by_cases c3 : i = s.base
  · subst c3
    have hT : s.Term s.base = (s.term, true) := by unfold LogS.Term; rw [if_neg (by omega), if_pos rfl]
    rw [hT]
    go_enter Try.func48, Try.ntmps48
    go_wp2_with (go_at_call 40; refine (last_any _ _ _ _ h ok).mono ?_; rintro e w' ⟨rfl, k, rfl⟩)
    go_ret2
    exact ⟨rfl, k, rfl⟩
  · have hL := L.out
    obtain ⟨j, hj⟩ : ∃ j : Nat, i = s.base + 1 + j := ⟨(i - s.base - 1).toNat, by omega⟩
    subst hj
    obtain ⟨x, hx⟩ : ∃ x, s.l[j]? = some x := ⟨_, List.getElem?_eq_getElem (by omega)⟩
    have hT : s.Term (s.base + 1 + j) = (x.Term, true) := by
      unfold LogS.Term
      rw [if_neg (by omega), if_neg (by omega), show (s.base + 1 + (j : Int) - s.base - 1).toNat = j by omega, hx]
      rfl
    rw [hT]
    obtain ⟨ad, A4, c4, rfl, hFa, hc0, hrest⟩ := at_Entry hr hx
    clear hrest
    go_enter Try.func48, Try.ntmps48
    go_wp2_with (go_at_call 40; refine (last_any _ _ _ _ h ok).mono ?_; rintro e w' ⟨rfl, k, rfl⟩)
    have e1 : s.base + 1 + (j : Int) - s.base - 1 = (j : Int) := by omega
    have e2 : (0 : Int) ≤ (j : Int) := by omega
    have e3 : (j : Int) < (s.l.length : Int) := by omega
    go_quiet (fail)
    go_wp2
    go_ret2
    exact ⟨rfl, k + nq, World.drewN_drewN ..⟩

theorem LogS.Term_ok {s : LogS} {i : Int} (h : (s.Term i).2 = true) : s.base ≤ i ∧ i ≤ s.last := by
  unfold LogS.Term at h
  by_cases c : i < s.base ∨ s.last < i
  · rw [if_pos c] at h; cases h
  · omega
def LogS.Last (s : LogS) : Int × Int := (s.last, (s.Term s.last).1)
theorem Last_any (g : Nat) (F : Foot) (s : LogS) (w : World) (h : LogAt w g F s) (ok : s.Ok) :
    Calls Try.prog 46 #[.pointer (some ⟨g, 0, none⟩)] w fun e w' => e = .returned (.tuple #[.int .i64 s.Last.1, .int .i64 s.Last.2]) ∧ ∃ k, w' = w.drewN k := by
  go_enter Try.func46, Try.ntmps46
  go_wp2_with fail
  refine (last_any _ _ _ _ h ok).mono ?_
  rintro e w1 ⟨rfl, k1, rfl⟩
  go_wp2_with fail
  refine (Term_any _ _ _ _ _ (h.drewN _) ok).mono ?_
  rintro e w2 ⟨rfl, k2, rfl⟩
  go_wp2_with fail
  refine (last_any _ _ _ _ (h.drewN _) ok).mono ?_
  rintro e w3 ⟨rfl, k3, rfl⟩
  go_wp2
  go_ret2
  exact ⟨rfl, k1 + k2 + k3, rfl⟩
end Go.Proofs.Ytikpbhhnllchmaa
