/- names.Valid, walked. -/
import Derived.Test.YtfjndjbpgcggkaaDoorDN3
set_option linter.unusedVariables false
set_option linter.unusedSimpArgs false
namespace Go.Proofs.YtfjndjbpgcggkaaDoor
open Go.RowKit

set_option maxHeartbeats 4000000 in
set_option maxRecDepth 1000000 in
theorem Valid_any (s : ByteArray) (w : World) (hs : s.size ≤ 35184372088832) (hT : TabsBelow w.heap.size w) :
    Calls Tryd.prog 56 #[.string s] w fun e w' => e = .returned (.bool (validName s)) ∧ Below w.heap.size w w' := by
  obtain ⟨r, hr⟩ : ∃ r, Hid (validName s = r) := ⟨_, rfl⟩
  obtain ⟨q, hq⟩ : ∃ q, Hid (countFrom s s.size 0 0 = q) := ⟨_, rfl⟩
  have hrq : Hid (r = validOf s q) := by
    show r = _
    rw [← hr.out, ← hq.out]
    rfl
  rw [hr.out]
  have HT := Lib.hid hT
  clear hT
  go_enter Tryd.func56, Tryd.ntmps56
  go_wp2
  go_loopw [3] (fun v wr => ∃ (pos fuel n : Nat), v = .int .i64 n ∧ wr.heap[w.heap.size]? = some (.stringIter s pos) ∧ Below w.heap.size w wr ∧ Hid (countFrom s fuel pos n = q) ∧ s.size ≤ pos + fuel ∧ n + fuel ≤ s.size) (fun _ wr => s.size - wr.iterPos w.heap.size)
  case atStart =>
    refine ⟨0, s.size, 0, rfl, ?_, (Below.refl _ w).alloc (Nat.le_refl _) _, hq, by omega, by omega⟩
    have := World.iter_heap w s 0
    simpa using this
  case round =>
    obtain ⟨pos, fuel, n, rfl, hit, hbw, hacc, hfu, hnp⟩ := hrel
    have hsz : w.heap.size < wr.heap.size := (Array.getElem?_eq_some_iff.1 hit).1
    by_cases hp : pos < s.size
    · have hnx : ∀ ty, (Instr.next (.pointer (some ⟨w.heap.size, 0, none⟩)) true ty).run Tryd.prog wr = _ := fun ty => Lib.run_next_any_at wr w.heap.size s pos ty hit hp
      have hwd := width_pos s pos hp
      have hd1 := decode_le s pos
      have hit2 := Lib.iterAt_heap wr w.heap.size s pos (pos + (Utf8.decode s pos).2) hit
      have hbw2 := Lib.below_iterAt hbw (k := w.heap.size) (by omega) s (pos + (Utf8.decode s pos).2)
      obtain ⟨f, rfl⟩ : ∃ f, fuel = f + 1 := ⟨fuel - 1, by omega⟩
      have hM := may_any ((Utf8.decode s pos).1 : Int)
      have hA := fun w => among_any signs ((Utf8.decode s pos).1 : Int) w (by decide)
      have HMA := Lib.hid (And.intro hM hA)
      clear hM hA
      go_wp2_with fail
      refine (HMA.out.1 _).mono ?_
      rintro e w1 ⟨rfl, h1⟩
      have hit3 := (h1.block w.heap.size (by rw [Lib.iterAt_size]; omega)).trans hit2
      have hbw3 := hbw2.trans (h1.mono (by rw [Lib.iterAt_size]; omega))
      cases hm : may ((Utf8.decode s pos).1 : Int)
      · have hres : Hid (r = false) := by show r = false; rw [hrq.out, ← hacc.out]; simp [countFrom, hp, hm, validOf]
        go_wp2
        go_ret
        exact ⟨by rw [hres.out]; rfl, hbw3⟩
      · by_cases hn : n = 0
        · subst hn
          go_wp2_with fail
          refine (HMA.out.2 _).mono ?_
          rintro e w2 ⟨rfl, h2⟩
          have hit4 := (h2.block w.heap.size (Array.getElem?_eq_some_iff.1 hit3).1).trans hit3
          have hbw4 := hbw3.trans (h2.mono (Nat.le_of_lt (Array.getElem?_eq_some_iff.1 hit3).1))
          cases hs2 : among signs ((Utf8.decode s pos).1 : Int)
          · have hres : Hid (countFrom s f (pos + (Utf8.decode s pos).2) (0 + 1) = q) := by
              show countFrom s f (pos + (Utf8.decode s pos).2) (0 + 1) = q
              rw [← hacc.out]; simp [countFrom, hp, hm, hs2]
            go_wp2
            go_roundw
            case rel => exact ⟨_, f, 0 + 1, by go_num, hit4, hbw4, hres, by omega, by omega⟩
            case measure =>
              simp only [World.iterPos, hit4, hit]
              omega
          · have hres : Hid (r = false) := by show r = false; rw [hrq.out, ← hacc.out]; simp [countFrom, hp, hs2, validOf]
            go_wp2
            go_ret
            exact ⟨by rw [hres.out]; rfl, hbw4⟩
        · have hres : Hid (countFrom s f (pos + (Utf8.decode s pos).2) (n + 1) = q) := by
            show countFrom s f (pos + (Utf8.decode s pos).2) (n + 1) = q
            rw [← hacc.out]; simp [countFrom, hp, hm, hn]
          have hnb : ((n : Int) == 0) = false := by rw [beq_eq_false_iff_ne]; omega
          clear hn
          go_wp2
          go_roundw
          case rel => exact ⟨_, f, n + 1, by go_num, hit3, hbw3, hres, by omega, by omega⟩
          case measure =>
            simp only [World.iterPos, hit3, hit]
            omega
    · have hnx : ∀ ty, (Instr.next (.pointer (some ⟨w.heap.size, 0, none⟩)) true ty).run Tryd.prog wr = _ := fun ty => Lib.run_next_end_at wr w.heap.size s pos ty hit hp
      have hqn : Hid (q = some n) := by
        show q = some n
        rw [← hacc.out]
        cases fuel with
        | zero => rfl
        | succ f => simp [countFrom, hp]
      have hres : Hid (r = (decide (0 < n) && decide (n ≤ 40) && Lib.validD s.data.toList)) := by
        show r = _
        rw [hrq.out, hqn.out]
        rfl
      have hV := Lib.hid (Tryd.ValidString s wr (by omega) (HT.out wr hbw))
      by_cases h0 : 0 < n
      · by_cases h40 : n ≤ 40
        · go_wp2_with fail
          refine hV.out.mono ?_
          rintro e w2 ⟨rfl, h2⟩
          go_wp2
          go_ret
          exact ⟨by rw [hres.out]; simp [h0, h40], hbw.trans (h2.mono hbw.size)⟩
        · have hres2 : Hid (r = false) := by show r = false; rw [hres.out]; simp [h40]
          go_wp2
          go_ret
          exact ⟨by rw [hres2.out]; rfl, hbw⟩
      · have hres2 : Hid (r = false) := by show r = false; rw [hres.out]; simp [h0]
        have hn0 : n = 0 := by omega
        subst hn0
        clear h0
        go_wp2
        go_ret
        exact ⟨by rw [hres2.out]; rfl, hbw⟩
end Go.Proofs.YtfjndjbpgcggkaaDoor
