/- raft.Raft: its own fields set; its rows; last, message, good, follow, most. Printed in part (own work). -/
import Derived.Test.YtikpbhhnllchmaaRF0
set_option linter.unusedVariables false
set_option linter.unusedSimpArgs false
namespace Go.Proofs.Ytikpbhhnllchmaa
open Go.RowKit
attribute [local go_sem] Same.cell Same.frozen

section
variable {W : World} {rb lb : Nat} {p : Nat → Foot} {As : Option Addr} {cs : Nat} {vy vn vm : Value} {s : RaftS}

theorem RaftIn.set_term (h : RaftIn W rb lb p As cs vy vn vm s) (x : Int) : RaftIn (W.setCell ⟨rb, 2, none⟩ (.int .i64 x)) rb lb p As cs vy vn vm { s with term := x } :=
  h.main (by simp) (fun k _ hk => Below.heap_setCell _ ⟨rb, 2, none⟩ _ k hk) (heap_setCell_same W rb 2 _ _ (.int .i64 x) h.cells) rfl rfl rfl rfl rfl
theorem RaftIn.set_vote (h : RaftIn W rb lb p As cs vy vn vm s) (x : Int) : RaftIn (W.setCell ⟨rb, 3, none⟩ (.int .i64 x)) rb lb p As cs vy vn vm { s with vote := x } :=
  h.main (by simp) (fun k _ hk => Below.heap_setCell _ ⟨rb, 3, none⟩ _ k hk) (heap_setCell_same W rb 3 _ _ (.int .i64 x) h.cells) rfl rfl rfl rfl rfl
theorem RaftIn.set_role (h : RaftIn W rb lb p As cs vy vn vm s) (x : Int) : RaftIn (W.setCell ⟨rb, 4, none⟩ (.int .i64 x)) rb lb p As cs vy vn vm { s with role := x } :=
  h.main (by simp) (fun k _ hk => Below.heap_setCell _ ⟨rb, 4, none⟩ _ k hk) (heap_setCell_same W rb 4 _ _ (.int .i64 x) h.cells) rfl rfl rfl rfl rfl
theorem RaftIn.set_leader (h : RaftIn W rb lb p As cs vy vn vm s) (x : Int) : RaftIn (W.setCell ⟨rb, 5, none⟩ (.int .i64 x)) rb lb p As cs vy vn vm { s with leader := x } :=
  h.main (by simp) (fun k _ hk => Below.heap_setCell _ ⟨rb, 5, none⟩ _ k hk) (heap_setCell_same W rb 5 _ _ (.int .i64 x) h.cells) rfl rfl rfl rfl rfl
theorem RaftIn.set_commit (h : RaftIn W rb lb p As cs vy vn vm s) (x : Int) : RaftIn (W.setCell ⟨rb, 6, none⟩ (.int .i64 x)) rb lb p As cs vy vn vm { s with commit := x } :=
  h.main (by simp) (fun k _ hk => Below.heap_setCell _ ⟨rb, 6, none⟩ _ k hk) (heap_setCell_same W rb 6 _ _ (.int .i64 x) h.cells) rfl rfl rfl rfl rfl
theorem RaftIn.set_clock (h : RaftIn W rb lb p As cs vy vn vm s) (x : Int) : RaftIn (W.setCell ⟨rb, 8, none⟩ (.int .i64 x)) rb lb p As cs vy vn vm { s with clock := x } :=
  h.main (by simp) (fun k _ hk => Below.heap_setCell _ ⟨rb, 8, none⟩ _ k hk) (heap_setCell_same W rb 8 _ _ (.int .i64 x) h.cells) rfl rfl rfl rfl rfl
end
theorem OwnS.split {α : Type} {K : Kind α} {e : TypeId} {W : World} {F : Foot} {v : Value} {xs : List α} (h : OwnS K e W F v xs) (i : Nat) : OwnSp K e W F F v xs i := by
  obtain ⟨cs, h1, h2, h3⟩ := h
  exact ⟨cs, h1, h2.take_ i, h2.drop_ i, h3⟩
/-- A row of one-cell elements that is not empty. -/
theorem OwnS.row1 {α : Type} {K : Kind α} {e : TypeId} {W : World} {F : Foot} {v : Value} {xs : List α} (hs : K.size = 1) (h : OwnS K e W F v xs) (hn : 0 < xs.length) :
    ∃ g c, v = .slice (some ⟨g, 0, none⟩) xs.length c ∧ F g ∧ g < W.heap.size ∧ xs.length ≤ c ∧ c ≤ 9223372036854775807 := by
  obtain ⟨cs, h1, h2, h3⟩ := h
  rcases h1.2 with ⟨_, h0⟩ | ⟨g, cap, cur, hv, hb, hh, r⟩
  · omega
  · obtain ⟨A, c, e', h4, h5⟩ := OwnS.slice (show OwnS K e W F v xs from ⟨cs, h1, h2, h3⟩)
    rw [hv] at e'
    injection e' with e1 e2 e3
    subst e3
    exact ⟨g, cap, hv, h3 g (by rw [hv]; rfl), (Array.getElem?_eq_some_iff.1 hh).1, h4, h5⟩
theorem OwnS.cell1 {α : Type} {K : Kind α} {e : TypeId} {W : World} {F : Foot} {g n c : Nat} {xs : List α} (hs : K.size = 1) (h : OwnS K e W F (.slice (some ⟨g, 0, none⟩) n c) xs) {i : Nat} {x : α} {u : Value} (hi : xs[i]? = some x) (hx : ∀ W F cs, K.rep W F x cs → cs = [u]) :
    W.cell? ⟨g, i, none⟩ = some u ∧ W.frozen? ⟨g, i, none⟩ = false := by
  obtain ⟨cc, hrep, hcell, hgl, _⟩ := (h.split i).step hi
  obtain rfl := hx _ _ _ hrep
  have hh := hcell 0 _ rfl
  have e1 : i * K.size + 0 = i := by rw [hs]; omega
  rw [e1] at hh
  exact hh

theorem rlast_any (w : World) (rb : Nat) (F : Foot) (s : RaftS) (h : RaftAt w rb F s) (ok : s.log.Ok) :
    Calls Try.prog 23 #[.pointer (some ⟨rb, 0, none⟩)] w fun e w' => e = .returned (.int .i64 s.log.last) ∧ ∃ k, w' = w.drewN k := by
  obtain ⟨lb, p, As, cs, vy, vn, vm, h, hF⟩ := h
  obtain ⟨c0, c1, c2, c3, c4, c5, c6, c7, c8, c9, c10, c11, c12, c13, hfz, hlt⟩ := h.facts
  go_enter Try.func23, Try.ntmps23
  go_wp2_with fail
  refine (Last_any lb _ _ w h.log ok).mono ?_
  rintro e w1 ⟨rfl, k, rfl⟩
  go_wp2
  go_ret
  exact ⟨rfl, k, rfl⟩

def msgV (kind frm to term : Int) : Value := .agg #[.int .i64 kind, .int .i64 frm, .int .i64 to, .int .i64 term, .int .i64 0, .int .i64 0, .slice none 0 0, .int .i64 0, .bool false, .int .i64 0, .slice none 0 0]
theorem message_any (w : World) (rb : Nat) (F : Foot) (s : RaftS) (kind to term : Int) (h : RaftAt w rb F s) :
    Calls Try.prog 47 #[.pointer (some ⟨rb, 0, none⟩), .int .i64 kind, .int .i64 to, .int .i64 term] w fun e w' => e = .returned (msgV kind s.id to term) ∧ Below w.heap.size w w' := by
  obtain ⟨lb, p, As, cs, vy, vn, vm, h, hF⟩ := h
  obtain ⟨c0, c1, c2, c3, c4, c5, c6, c7, c8, c9, c10, c11, c12, c13, hfz, hlt⟩ := h.facts
  have hb : ∀ o, Below w.heap.size w (w.alloc o) := fun o => (Below.refl _ _).alloc (Nat.le_refl _) o
  go_enter Try.func47, Try.ntmps47
  go_wp2
  refine bodyPost_ret (v := msgV kind s.id to term) (by simp [results, Try.results47, go_sem, msgV]) rfl ?_
  exact ⟨rfl, hb _⟩

def RaftS.good (s : RaftS) (last term : Int) : Bool := decide (s.log.Last.2 < term) || (decide (term = s.log.Last.2) && decide (s.log.last ≤ last))
theorem good_any (w : World) (rb : Nat) (F : Foot) (s : RaftS) (last term : Int) (h : RaftAt w rb F s) (ok : s.log.Ok) :
    Calls Try.prog 53 #[.pointer (some ⟨rb, 0, none⟩), .int .i64 last, .int .i64 term] w fun e w' => e = .returned (.bool (s.good last term)) ∧ ∃ k, w' = w.drewN k := by
  obtain ⟨lb, p, As, cs, vy, vn, vm, h, hF⟩ := h
  obtain ⟨c0, c1, c2, c3, c4, c5, c6, c7, c8, c9, c10, c11, c12, c13, hfz, hlt⟩ := h.facts
  have HL := Lib.hid (Last_any lb _ _ w h.log ok)
  have hl1 : s.log.Last.1 = s.log.last := rfl
  unfold RaftS.good
  rw [hl1] at HL
  obtain ⟨t, ht⟩ : ∃ t, Hid (s.log.Last.2 = t) := ⟨_, rfl⟩
  obtain ⟨i, hi⟩ : ∃ i, Hid (s.log.last = i) := ⟨_, rfl⟩
  rw [ht.out, hi.out] at HL ⊢
  obtain ⟨r, hr⟩ : ∃ r, Hid ((decide (t < term) || (decide (term = t) && decide (i ≤ last))) = r) := ⟨_, rfl⟩
  rw [hr.out]
  have H0 : ∀ e w', e = Ending.returned (.bool r) → (∃ k, w' = w.drewN k) → (e = .returned (.bool r) ∧ ∃ k, w' = w.drewN k) := fun _ _ a b => ⟨a, b⟩
  by_cases h1 : t < term
  · have hr2 : Hid (r = true) := by show r = true; rw [← hr.out, decide_eq_true h1]; rfl
    rw [hr2.out]
    clear hl1 H0
    go_enter Try.func53, Try.ntmps53
    go_wp2_with fail
    refine HL.out.mono ?_
    rintro e w1 ⟨rfl, k, rfl⟩
    go_wp2
    go_ret
    exact ⟨by first | rfl | (simp; omega), k, rfl⟩
  by_cases h2 : term = t
  · have eb : (term == t) = true := by rw [beq_iff_eq]; exact h2
    by_cases h3 : i ≤ last
    · have hr2 : Hid (r = true) := by show r = true; rw [← hr.out, decide_eq_false h1, decide_eq_true h2, decide_eq_true h3]; rfl
      rw [hr2.out]
      clear hl1 H0 h2
      go_enter Try.func53, Try.ntmps53
      go_wp2_with fail
      refine HL.out.mono ?_
      rintro e w1 ⟨rfl, k, rfl⟩
      go_wp2
      go_ret
      exact ⟨by first | rfl | (simp; omega), k, rfl⟩
    · have hr2 : Hid (r = false) := by show r = false; rw [← hr.out, decide_eq_false h1, decide_eq_true h2, decide_eq_false h3]; rfl
      rw [hr2.out]
      clear hl1 H0 h2
      go_enter Try.func53, Try.ntmps53
      go_wp2_with fail
      refine HL.out.mono ?_
      rintro e w1 ⟨rfl, k, rfl⟩
      go_wp2
      go_ret
      exact ⟨by first | rfl | (simp; omega), k, rfl⟩
  · have eb : (term == t) = false := by rw [beq_eq_false_iff_ne]; exact h2
    have hr2 : Hid (r = false) := by show r = false; rw [← hr.out, decide_eq_false h1, decide_eq_false h2]; rfl
    rw [hr2.out]
    clear hl1 H0 h2
    go_enter Try.func53, Try.ntmps53
    go_wp2_with fail
    refine HL.out.mono ?_
    rintro e w1 ⟨rfl, k, rfl⟩
    go_wp2
    go_ret
    exact ⟨by first | rfl | (simp; omega), k, rfl⟩

def RaftS.follow (s : RaftS) (t : Int) : RaftS := if s.term < t then { s with role := 0, term := t, vote := 0, leader := 0 } else { s with role := 0 }
theorem follow_any (w : World) (rb : Nat) (F : Foot) (s : RaftS) (t : Int) (h : RaftAt w rb F s) :
    Calls Try.prog 32 #[.pointer (some ⟨rb, 0, none⟩), .int .i64 t] w fun e w' => e = .returned (.tuple #[]) ∧ RStep w rb F (s.follow t) w' := by
  obtain ⟨lb, p, As, cs, vy, vn, vm, h, hF⟩ := h
  obtain ⟨c0, c1, c2, c3, c4, c5, c6, c7, c8, c9, c10, c11, c12, c13, hfz, hlt⟩ := h.facts
  have H := Lib.hid (And.intro h hF)
  have f2 := hfz 2
  have f3 := hfz 3
  have f4 := hfz 4
  have f5 := hfz 5
  clear h
  by_cases ht : s.term < t
  · have he : Hid (s.follow t = { s with role := 0, term := t, vote := 0, leader := 0 }) := by show _ = _; unfold RaftS.follow; rw [if_pos ht]
    go_enter Try.func32, Try.ntmps32
    go_wp2
    go_end0
    obtain ⟨h, hF⟩ := H.out
    refine ⟨rfl, ⟨⟨lb, p, As, cs, vy, vn, vm, ?_, fun i k hk => .inl (hF i k hk)⟩, ?_⟩⟩
    · rw [he.out]
      exact (((h.set_role 0).set_term t).set_vote 0).set_leader 0
    · have hr := hF 0 rb h.p0
      exact ((((Keeps.refl F w).setCell (p := ⟨rb, 4, none⟩) (fun _ => hr) _).setCell (p := ⟨rb, 2, none⟩) (fun _ => hr) _).setCell (p := ⟨rb, 3, none⟩) (fun _ => hr) _).setCell (p := ⟨rb, 5, none⟩) (fun _ => hr) _
  · have he : Hid (s.follow t = { s with role := 0 }) := by show _ = _; unfold RaftS.follow; rw [if_neg ht]
    go_enter Try.func32, Try.ntmps32
    go_wp2
    go_end0
    obtain ⟨h, hF⟩ := H.out
    refine ⟨rfl, ⟨⟨lb, p, As, cs, vy, vn, vm, ?_, fun i k hk => .inl (hF i k hk)⟩, ?_⟩⟩
    · rw [he.out]
      exact h.set_role 0
    · exact (Keeps.refl F w).setCell (p := ⟨rb, 4, none⟩) (fun _ => hF 0 rb h.p0) _

def RaftS.most (s : RaftS) : Bool := decide (s.n / 2 < (s.yes.count true : Nat))
set_option maxHeartbeats 1000000 in
theorem most_any (w : World) (rb : Nat) (F : Foot) (s : RaftS) (h : RaftAt w rb F s) (hy : s.yes.length ≤ 1000) (hn : 0 ≤ s.n ∧ s.n ≤ 1000) :
    Calls Try.prog 50 #[.pointer (some ⟨rb, 0, none⟩)] w fun e w' => e = .returned (.bool s.most) ∧ w' = w := by
  obtain ⟨lb, p, As, cs, vy, vn, vm, h, hF⟩ := h
  obtain ⟨c0, c1, c2, c3, c4, c5, c6, c7, c8, c9, c10, c11, c12, c13, hfz, hlt⟩ := h.facts
  obtain ⟨A, c, rfl, l1, l2, hrd⟩ := h.yes.reads
  obtain ⟨ys, hys⟩ : ∃ ys, Hid (s.yes = ys) := ⟨_, rfl⟩
  obtain ⟨n, hnn⟩ : ∃ n, Hid (s.n = n) := ⟨_, rfl⟩
  unfold RaftS.most
  rw [hys.out] at hrd c11 l1 hy ⊢
  rw [hnn.out] at c1 hn ⊢
  obtain ⟨N, hN⟩ : ∃ N, Hid (ys.length = N) := ⟨_, rfl⟩
  rw [hN.out] at hrd c11 l1 hy
  have HR := Lib.hid hrd
  clear h hF hrd hfz
  go_enter Try.func50, Try.ntmps50
  go_wp2
  go_loopw [3, 11] (fun v q wr => ∃ i : Nat, q = .int .i64 i ∧ i ≤ N ∧ v = .int .i64 ((ys.take i).count true : Nat) ∧ Hid (wr = w)) (fun _ q _ => N - (intOf q).toNat)
  case atStart => exact ⟨0, rfl, Nat.zero_le _, rfl, rfl⟩
  case round =>
    obtain ⟨i, rfl, hi, rfl, hwr⟩ := hrel
    have hcl : (ys.take i).count true ≤ 1000 := Nat.le_trans List.count_le_length (by rw [List.length_take]; omega)
    by_cases hlt2 : i < N
    · obtain ⟨b, hb⟩ : ∃ b, ys[i]? = some b := ⟨_, List.getElem?_eq_getElem (by rw [hN.out]; exact hlt2)⟩
      obtain ⟨ad, hA0, hFa, k0⟩ := at_bool HR.out hb
      rw [← hwr.out] at k0
      subst hA0
      have hst : (ys.take (i + 1)).count true = (ys.take i).count true + (if b = true then 1 else 0) := by
        rw [List.take_add_one, hb, List.count_append]
        cases b <;> rfl
      have Hst := Lib.hid hst
      obtain ⟨q, hq⟩ : ∃ q, Hid ((ys.take i).count true = q) := ⟨_, rfl⟩
      rw [hq.out] at Hst hcl
      rw [hq.out]
      clear hb hst
      cases b with
      | true =>
        go_wp2
        go_roundw
        case rel => exact ⟨i + 1, by go_num, by omega, by rw [Hst.out]; go_num, hwr.out⟩
        case measure => simp [intOf]; omega
      | false =>
        go_wp2
        go_roundw
        case rel => exact ⟨i + 1, by go_num, by omega, by rw [Hst.out]; rfl, hwr.out⟩
        case measure => simp [intOf]; omega
    · have e : (ys.take i).count true = ys.count true := by rw [List.take_of_length_le (by have := hN.out; omega)]
      rw [e] at hcl ⊢
      obtain ⟨q, hq⟩ : ∃ q, Hid (ys.count true = q) := ⟨_, rfl⟩
      rw [hq.out]
      rw [← hwr.out] at c1 hlt
      clear e
      go_wp2
      go_ret
      exact ⟨by rw [hq.out]; rfl, hwr.out⟩
end Go.Proofs.Ytikpbhhnllchmaa
