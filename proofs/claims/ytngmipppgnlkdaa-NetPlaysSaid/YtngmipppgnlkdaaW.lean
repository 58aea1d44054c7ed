/- Contracts of net.Net's methods: Twice, All; alive. -/
import Derived.Test.YtngmipppgnlkdaaV
set_option linter.unusedVariables false
set_option linter.unusedSimpArgs false
namespace Go.Proofs.Ytngmipppgnlkdaa
open Go.RowKit
attribute [local go_sem] Same.cell

theorem Twice_none (g : Nat) (F : Foot) (w : World) (i : Int) (h : NetAt w g F []) :
    Calls Try.prog 23 #[.pointer (some ⟨g, 0, none⟩), .int .i64 i] w fun e w' => e = .returned (.bool false) ∧ w' = w := by
  go_enter Try.func23, Try.ntmps23
  go_wp2_with fail
  refine (at_none g F w i h).mono ?_
  rintro e w1 ⟨rfl, rfl⟩
  go_wp2_with fail
  go_ret
  exact ⟨rfl, rfl⟩

set_option maxHeartbeats 1000000 in
theorem Twice_any (g : Nat) (F : Foot) (l : List Message) (w : World) (i : Int) (h : NetAt w g F l) (hn : l.length ≤ 10000) (hf : ∀ m ∈ l, m.Fits) {m : Message} (hm : l[netIx i l.length]? = some m) :
    Calls Try.prog 23 #[.pointer (some ⟨g, 0, none⟩), .int .i64 i] w fun e w' => e = .returned (.bool true) ∧ NetAt w' g (Grow F w w') (netAdd l [m]) ∧ Keeps F w w' := by
  obtain ⟨k, hk⟩ : ∃ k, Hid (netIx i l.length = k) := ⟨_, rfl⟩
  rw [hk.out] at hm
  have hkl : k < l.length := (List.getElem?_eq_some_iff.1 hm).1
  have hone : (l.drop k).take 1 = [m] := by
    rw [List.drop_eq_getElem_cons hkl]
    rw [List.getElem?_eq_getElem hkl] at hm
    injection hm with hm
    rw [hm]; rfl
  have Hone := Lib.hid hone
  have hmf := hf m (List.mem_of_getElem? hm)
  clear hone hm
  obtain ⟨A, c, hg0, hg1, hgf, hF, hlt, ho, hc1, hc2, hr⟩ := h.cells
  obtain ⟨ad, hA0, _⟩ := hr.lt (by omega)
  subst hA0
  have hr1 : RS kMessage w (fun j => F j ∧ j < w.heap.size) (if c = k then some ad else (some ad).map (·.add (k * 11))) 1 [m] := by
    have h1 := (hr.bound.drop_ k (by omega) c hc1).take_ 1 (by omega)
    rw [Hone.out] at h1
    exact h1.mono fun j hj => ⟨hj.1.1, hj.2⟩
  rw [if_neg (by omega)] at hr1
  have hr2 : RS kMessage w (fun j => F j ∧ j < w.heap.size) (some (ad.add (k * 11))) 1 [m] := hr1
  have Hr2 := Lib.hid hr2
  have hkc : k < c := by omega
  have e1 : (k : Int) + 1 ≤ (c : Int) := by omega
  clear hg0 ho hr hr1 hr2
  go_enter Try.func23, Try.ntmps23
  go_wp2_with fail
  refine (at_any g F l w i h (by omega) (by omega)).mono ?_
  rintro e w1 ⟨rfl, rfl⟩
  rw [hk.out]
  go_wp2_with fail
  refine (Add_any_ g F _ l (some (ad.add (k * 11))) _ [m] w1 h hn Hr2.out (by simp) (fun x hx => by simp at hx; subst hx; exact hmf) (.inl (by simp)) (fun j hj => hj.2)).mono ?_
  rintro e w2 ⟨rfl, hN, hK⟩
  go_wp2_with fail
  go_ret
  exact ⟨rfl, hN, hK⟩

/-- A message of four numbers. -/
def msgL (a b c t : Int) : Message := ⟨a, b, c, t, 0, 0, [], 0, false, 0, []⟩
theorem msgL_fits (a b c t : Int) : (msgL a b c t).Fits := ⟨by simp [msgL], by simp [msgL], fun x hx => by simp [msgL] at hx⟩
theorem lit_msg (W : World) (a b c t : Int) : RS kMessage (W.alloc (.cells #[.int .i64 a, .int .i64 b, .int .i64 c, .int .i64 t, .int .i64 0, .int .i64 0, .slice none 0 0, .int .i64 0, .bool false, .int .i64 0, .slice none 0 0] 54)) (fun k => k = W.heap.size) (some ⟨W.heap.size, 0, none⟩) 1 [msgL a b c t] :=
  (RS.lit W (F := NoF) (xs := [msgL a b c t]) (Elems.single (K := kMessage) ⟨none, 0, none, 0, rfl, Nat.le_refl _, by omega, RS.nil, Nat.le_refl _, by omega, RS.nil⟩)).mono fun k hk => hk.resolve_left id

set_option maxRecDepth 100000 in
set_option maxHeartbeats 1000000 in
theorem nalive_any (w : World) : Calls Try.prog 19 #[] w fun e w' => e = .returned (.bool true) ∧ Below w.heap.size w w' := by
  go_enter Try.func19, Try.ntmps19
  go_wp2_with fail
  have hN := NetAt.new w
  have hb1 : Below w.heap.size w (w.alloc (.cells #[.slice none 0 0] 50)) := (Below.refl _ _).alloc (Nat.le_refl _) _
  have hs1 : w.heap.size < (w.alloc (.cells #[.slice none 0 0] 50)).heap.size := by simp
  generalize w.alloc (.cells #[.slice none 0 0] 50) = w1 at hN hb1 hs1 ⊢
  generalize hb : w.heap.size = b at hN hb1 hs1 ⊢
  refine (Take_none b _ w1 0 hN).mono ?_
  rintro e w2 ⟨rfl, hb2⟩
  go_wp2_with fail
  have hN2 := hN.below hb2
  have hb3 : Below w1.heap.size w1 (w2.alloc (.cells #[.int .i64 0, .int .i64 0, .int .i64 0, .int .i64 0, .int .i64 0, .int .i64 0, .slice none 0 0, .int .i64 0, .bool false, .int .i64 0, .slice none 0 0] 54)) := hb2.alloc hb2.size _
  have hN3 : NetAt (w2.alloc (.cells #[.int .i64 0, .int .i64 0, .int .i64 0, .int .i64 0, .int .i64 0, .int .i64 0, .slice none 0 0, .int .i64 0, .bool false, .int .i64 0, .slice none 0 0] 54)) b _ [] := hN2.below ((Below.refl _ _).alloc (Nat.le_refl _) _)
  have hs3 : (w2.alloc (.cells #[.int .i64 0, .int .i64 0, .int .i64 0, .int .i64 0, .int .i64 0, .int .i64 0, .slice none 0 0, .int .i64 0, .bool false, .int .i64 0, .slice none 0 0] 54)).heap.size = w2.heap.size + 1 := by simp
  have hsb := hb2.size
  generalize w2.alloc (.cells #[.int .i64 0, .int .i64 0, .int .i64 0, .int .i64 0, .int .i64 0, .int .i64 0, .slice none 0 0, .int .i64 0, .bool false, .int .i64 0, .slice none 0 0] 54) = w3 at hb3 hN3 hs3 ⊢
  have hr4 := lit_msg w3 1 1 2 0
  have hb4 : Below w1.heap.size w1 (w3.alloc (.cells #[.int .i64 1, .int .i64 1, .int .i64 2, .int .i64 0, .int .i64 0, .int .i64 0, .slice none 0 0, .int .i64 0, .bool false, .int .i64 0, .slice none 0 0] 54)) := hb3.alloc hb3.size _
  have hN4 : NetAt (w3.alloc (.cells #[.int .i64 1, .int .i64 1, .int .i64 2, .int .i64 0, .int .i64 0, .int .i64 0, .slice none 0 0, .int .i64 0, .bool false, .int .i64 0, .slice none 0 0] 54)) b _ [] := hN3.below ((Below.refl _ _).alloc (Nat.le_refl _) _)
  have hs4 : (w3.alloc (.cells #[.int .i64 1, .int .i64 1, .int .i64 2, .int .i64 0, .int .i64 0, .int .i64 0, .slice none 0 0, .int .i64 0, .bool false, .int .i64 0, .slice none 0 0] 54)).heap.size = w3.heap.size + 1 := by simp
  rw [← hs3]
  generalize w3.alloc (.cells #[.int .i64 1, .int .i64 1, .int .i64 2, .int .i64 0, .int .i64 0, .int .i64 0, .slice none 0 0, .int .i64 0, .bool false, .int .i64 0, .slice none 0 0] 54) = w4 at hr4 hb4 hN4 hs4 ⊢
  refine (Add_any_ b _ _ [] _ _ [msgL 1 1 2 0] w4 hN4 (by simp) hr4 (by simp) (fun x hx => by simp at hx; subst hx; exact msgL_fits _ _ _ _) (.inl (by simp)) (fun j hj => by omega)).mono ?_
  rintro e w5 ⟨rfl, hN5, hK5⟩
  have hN5 : NetAt w5 b _ [msgL 1 1 2 0] := hN5
  go_wp2_with fail
  refine (Take_any b _ [msgL 1 1 2 0] w5 5 hN5 (by simp) (m := msgL 1 1 2 0) rfl).mono ?_
  rintro e w6 ⟨A6, c6, A10, c10, rfl, hN6, hM6, hK6⟩
  have hN6 : NetAt w6 b _ [] := hN6
  simp only [msgL, List.length_nil]
  go_wp2_with fail
  refine (Len_any b _ [] _ (hN6.below ((Below.refl _ _).alloc (Nat.le_refl _) _)) (by simp)).mono ?_
  rintro e w7 ⟨rfl, rfl⟩
  go_wp2_with fail
  go_ret
  have hsz := hb4.size
  have t1 : Below b w w4 := hb1.trans (hb4.mono (by omega))
  have t2 := Keeps.below_of (a := w) hK5 t1.size (fun k hk => by have : k = b := hk; omega)
  have t3 : Below b w w5 := t1.trans (hb ▸ t2)
  have t4 := Keeps.below_of (a := w) hK6 t3.size (fun k hk => by
    rcases hk with hk | hk
    · have : k = b := hk; omega
    · have := hk.1; omega)
  have t5 : Below b w w6 := t3.trans (hb ▸ t4)
  exact ⟨rfl, hb ▸ t5.alloc (by have := t5.size; omega) _⟩
end Go.Proofs.Ytngmipppgnlkdaa
