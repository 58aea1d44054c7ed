/- Contract of net.Net's All. -/
import Derived.Test.YtngmipppgnlkdaaW
set_option linter.unusedVariables false
set_option linter.unusedSimpArgs false
namespace Go.Proofs.Ytngmipppgnlkdaa
open Go.RowKit
attribute [local go_sem] Same.cell

set_option maxRecDepth 100000 in
set_option maxHeartbeats 2000000 in
theorem All_any (g : Nat) (F : Foot) (l : List Message) (w : World) (h : NetAt w g F l) (hn : l.length ≤ 10000) (hf : ∀ m ∈ l, m.Fits) :
    Calls Try.prog 32 #[.pointer (some ⟨g, 0, none⟩)] w fun e w' => ∃ v, e = .returned v ∧ Made kMessage 54 w w' (New w w') v l := by
  obtain ⟨A, c, hg0, hg1, hgf, hF, hlt, ho, hc1, hc2, hr⟩ := h.cells
  clear hg0 ho
  go_enter Try.func32, Try.ntmps32
  go_wp2_with fail
  go_loopw [11, 3] (fun q v wr => ∃ k : Nat, q = .int .i64 k ∧ k ≤ l.length ∧ OwnS kMessage 54 wr (New w wr) v (l.take k) ∧ Below w.heap.size w wr) (fun q v _ => l.length - (intOf q).toNat)
  case atStart => exact ⟨0, rfl, Nat.zero_le _, OwnS.nil, Below.refl _ _⟩
  case round =>
    obtain ⟨k, rfl, hk, hO, hB⟩ := hrel
    obtain ⟨A5, n5, c5, rfl⟩ := hO.shape
    by_cases hlk : k < l.length
    · obtain ⟨m, hm⟩ : ∃ m, l[k]? = some m := ⟨_, List.getElem?_eq_getElem hlk⟩
      have hmf := hf m (List.mem_of_getElem? hm)
      obtain ⟨ad, A6, c6, A10, c10, hA0, hFa, k0, k1, k2, k3, k4, k5, k6, k7, k8, k9, k10, l6, m6, r6, l10, m10, r10⟩ := at_Message (hr.below hB) hm
      subst hA0
      have Hm := Lib.hid hm
      clear hm
      go_wp2_with fail
      have hb1 : Below wr.heap.size wr (wr.alloc (.cells #[.int .i64 m.Kind, .int .i64 m.From, .int .i64 m.To, .int .i64 m.Term, .int .i64 m.Last, .int .i64 m.LastTerm, .slice A6 m.Entries.length c6, .int .i64 m.Commit, .bool m.OK, .int .i64 m.Match, .slice A10 m.Data.length c10] 54)) := (Below.refl _ _).alloc (Nat.le_refl _) _
      generalize wr.alloc (.cells #[.int .i64 m.Kind, .int .i64 m.From, .int .i64 m.To, .int .i64 m.Term, .int .i64 m.Last, .int .i64 m.LastTerm, .slice A6 m.Entries.length c6, .int .i64 m.Commit, .bool m.OK, .int .i64 m.Match, .slice A10 m.Data.length c10] 54) = w1 at hb1 ⊢
      refine (ncopied_any m A6 c6 A10 c10 _ _ ⟨l6, m6, r6.below hb1, l10, m10, r10.below hb1⟩ hmf).mono ?_
      rintro e w2 ⟨qA6, qc6, qA10, qc10, rfl, hM, hb2⟩
      have hb02 : Below wr.heap.size wr w2 := hb1.trans (hb2.mono hb1.size)
      have hr3 : RS kMessage (w2.alloc (.cells #[.int .i64 m.Kind, .int .i64 m.From, .int .i64 m.To, .int .i64 m.Term, .int .i64 m.Last, .int .i64 m.LastTerm, .slice qA6 m.Entries.length qc6, .int .i64 m.Commit, .bool m.OK, .int .i64 m.Match, .slice qA10 m.Data.length qc10] 54)) (fun k => New w1 w2 k ∨ k = w2.heap.size) (some ⟨w2.heap.size, 0, none⟩) 1 [m] :=
        RS.lit w2 (xs := [m]) (Elems.single (K := kMessage) hM.rep)
      have hb03 : Below wr.heap.size wr (w2.alloc (.cells #[.int .i64 m.Kind, .int .i64 m.From, .int .i64 m.To, .int .i64 m.Term, .int .i64 m.Last, .int .i64 m.LastTerm, .slice qA6 m.Entries.length qc6, .int .i64 m.Commit, .bool m.OK, .int .i64 m.Match, .slice qA10 m.Data.length qc10] 54)) := hb02.alloc hb02.size _
      have hs1 := hb1.size
      have hs2 := hb2.size
      have hsr := hB.size
      have hkl : (l.take k).length = k := by rw [List.length_take]; omega
      go_wp2_with (first
        | (at_builtin
           refine wpList_append_S rfl tMessage (.tmp 15) (.tmp 18) rfl (K := kMessage) rfl rfl (hO.below hb03) hr3 ?_ ?_ ?_ ?_))
      · intro x hx hx2
        have h1 := (hO.lt x hx).2
        rcases hx2 with hx2 | hx2
        · have := hx2.1; omega
        · omega
      · rw [hkl]; omega
      · rw [hkl]; omega
      intro v4 w4 hA
      obtain ⟨A7, n7, c7, rfl⟩ := hA.own.shape
      have hs3 : (w2.alloc (.cells #[.int .i64 m.Kind, .int .i64 m.From, .int .i64 m.To, .int .i64 m.Term, .int .i64 m.Last, .int .i64 m.LastTerm, .slice qA6 m.Entries.length qc6, .int .i64 m.Commit, .bool m.OK, .int .i64 m.Match, .slice qA10 m.Data.length qc10] 54)).heap.size = w2.heap.size + 1 := by simp
      have hs4 := hA.grown.size
      have hb4 : Below w.heap.size w w4 := (hB.trans (hb03.mono hB.size)).grown hA.grown (by omega) (fun x hx => (hO.lt x hx).1.1)
      have hlist : l.take k ++ [m] = l.take (k + 1) := by rw [List.take_add_one, Hm.out]; rfl
      have hO4 : OwnS kMessage 54 w4 (New w w4) (.slice A7 n7 c7) (l.take (k + 1)) := by
        rw [← hlist]
        refine hA.own.mono fun x hx => ?_
        rcases hx with hx | hx | hx
        · exact ⟨hx.1, by have := hx.2; omega⟩
        · rcases hx with hx | hx
          · have := hx.1; have := hx.2; exact ⟨by omega, by omega⟩
          · exact ⟨by omega, by omega⟩
        · have := hx.1; have := hx.2; exact ⟨by omega, by omega⟩
      clear hlist hA
      go_wp2
      go_roundw
      case rel => exact ⟨k + 1, by go_num, by omega, hO4, hb4⟩
      case measure => simp [intOf]; omega
    · obtain rfl : k = l.length := by omega
      rw [List.take_of_length_le (Nat.le_refl _)] at hO
      go_wp2
      go_ret
      exact ⟨_, rfl, hO, fun x hx => (hO.lt x hx).1.1, hB⟩
end Go.Proofs.Ytngmipppgnlkdaa
