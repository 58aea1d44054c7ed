/- The document's own disk: Cut, List. -/
import Derived.Test.YtfjndjbpgcggkaaDoorDR6
set_option linter.unusedVariables false
set_option linter.unusedSimpArgs false
namespace Go.Proofs.YtfjndjbpgcggkaaDoor
open Go.RowKit
attribute [local go_sem] Same.cell

/-- A file out of get, turned, and put back. -/
theorem rput_back (rb : Nat) (f : RFile) (A1 : Option Addr) (cp1 n : Nat) (w w3 : World) (F : Foot) (room : Int) (l : List RFile) (A : Option Addr) (c : Nat) (h : RefAt w F rb room l A c) (hb3 : Below w.heap.size w w3) (hn : l.length ≤ 1000000000)
    (hfn : f.b.length = n) (l1 : n ≤ cp1) (m1 : cp1 ≤ 9223372036854775807) (r3 : RS (kInt .u8) w3 (fun k => F k ∧ k ≠ rb ∧ k < w.heap.size) A1 n f.b) :
    Calls Tryd.prog 133 #[.pointer (some ⟨rb, 0, none⟩), .agg #[.string f.name, .slice A1 n cp1, .int .i64 f.loose]] w3 fun en w' => en = .returned (.tuple #[]) ∧ ∀ e, RPost w F rb room (rput f l) e (.returned (.int .i64 e)) w' := by
  subst hfn
  refine (rput_any rb f A1 cp1 w3 F (fun k => F k ∧ k ≠ rb ∧ k < w.heap.size) room l A c (h.below hb3) hn l1 m1 r3 (fun h => h.2.1 rfl)).mono ?_
  rintro en w4 hP
  exact ⟨hP.1, fun e => hP.post hb3 fun j hj => .inl hj.1⟩

def rcutL (s : ByteArray) (n : Int) (l : List RFile) : List RFile := if (rgot s l).2 = 0 then rput ⟨(rgot s l).1.name, (rgot s l).1.b.take (clampN n (rgot s l).1.b.length), 0⟩ l else l

set_option maxHeartbeats 8000000 in
set_option maxRecDepth 100000 in
theorem rcut_any (rb : Nat) (s : ByteArray) (n : Int) (w : World) (F : Foot) (room : Int) (l : List RFile) (A : Option Addr) (c : Nat) (h : RefAt w F rb room l A c) (hn : l.length ≤ 1000000000) (hs : s.size ≤ 35184372088832) (hn1 : -9223372036854775808 ≤ n) (hn2 : n ≤ 9223372036854775807) :
    Calls Tryd.prog 87 #[.pointer (some ⟨rb, 0, none⟩), .string s, .int .i64 n] w (RPost w F rb room (rcutL s n l) (rgot s l).2) := by
  have HG := Lib.hid (rget_any rb s w F room l A c h hn hs)
  have H := Lib.hid h
  clear h
  unfold rcutL
  generalize rgot s l = g at HG ⊢
  obtain ⟨f, e0⟩ := g
  dsimp only at HG ⊢
  by_cases e00 : e0 = 0
  · subst e00
    rw [if_pos rfl]
    have hb := Lib.hid (clampN_eq n f.b.length)
    by_cases hneg : n < 0
    · by_cases hlt : 0 < f.b.length
      · have hcl : clampN n f.b.length = 0 := by have := hb.out; omega
        rw [hcl]
        clear hcl hb
        go_enter Tryd.func87, Tryd.ntmps87
        go_wp2_with fail
        refine HG.out.mono ?_
        rintro e w1 ⟨A1, cp1, rfl, l1, m1, r1, hb1⟩
        have hcut := cut_hi tBytes .i64 A1 f.b.length cp1 0 (by omega)
        obtain ⟨L, hL⟩ : ∃ L, Hid (f.b.length = L) := ⟨_, rfl⟩
        rw [hL.out] at hcut r1 hlt l1 ⊢
        have hb3 : Below w.heap.size w (w1.alloc (.cells #[.string f.name, .slice A1 0 cp1, .int .i64 0] 191)) := hb1.alloc hb1.size _
        have r3 : RS (kInt .u8) (w1.alloc (.cells #[.string f.name, .slice A1 0 cp1, .int .i64 0] 191)) (fun k => F k ∧ k ≠ rb ∧ k < w.heap.size) A1 0 (f.b.take 0) := (r1.take_ 0 (by omega)).alloc _
        have HX := Lib.hid (And.intro hb3 r3)
        clear hb1 hb3 r1 r3 HG
        go_wp2_with fail
        obtain ⟨hb3, r3⟩ := HX.out
        generalize w1.alloc (.cells #[.string f.name, .slice A1 0 cp1, .int .i64 0] 191) = w3 at hb3 r3 ⊢
        refine (rput_back rb ⟨f.name, f.b.take 0, 0⟩ A1 cp1 0 w w3 F room l A c H.out hb3 hn (by rw [List.length_take, hL.out]; omega) (by omega) m1 r3).mono ?_
        rintro e w4 ⟨rfl, hP⟩
        have HP := Lib.hid hP
        clear hb3 r3 hP HX hcut
        go_wp2
        go_ret
        exact HP.out _
      · have hcl : clampN n f.b.length = f.b.length := by have := hb.out; omega
        rw [hcl]
        clear hcl hb
        go_enter Tryd.func87, Tryd.ntmps87
        go_wp2_with fail
        refine HG.out.mono ?_
        rintro e w1 ⟨A1, cp1, rfl, l1, m1, r1, hb1⟩
        obtain ⟨L, hL⟩ : ∃ L, Hid (f.b.length = L) := ⟨_, rfl⟩
        rw [hL.out] at r1 hlt l1 ⊢
        have hb3 : Below w.heap.size w (w1.alloc (.cells #[.string f.name, .slice A1 L cp1, .int .i64 0] 191)) := hb1.alloc hb1.size _
        have r3 : RS (kInt .u8) (w1.alloc (.cells #[.string f.name, .slice A1 L cp1, .int .i64 0] 191)) (fun k => F k ∧ k ≠ rb ∧ k < w.heap.size) A1 L (f.b.take L) := (by rw [List.take_of_length_le (by have := hL.out; omega)]; exact r1.alloc _)
        have HX := Lib.hid (And.intro hb3 r3)
        clear hb1 hb3 r1 r3 HG
        go_wp2_with fail
        obtain ⟨hb3, r3⟩ := HX.out
        generalize w1.alloc (.cells #[.string f.name, .slice A1 L cp1, .int .i64 0] 191) = w3 at hb3 r3 ⊢
        refine (rput_back rb ⟨f.name, f.b.take L, 0⟩ A1 cp1 L w w3 F room l A c H.out hb3 hn (by rw [List.length_take]; have := hL.out; omega) (by omega) m1 r3).mono ?_
        rintro e w4 ⟨rfl, hP⟩
        have HP := Lib.hid hP
        clear hb3 r3 hP HX
        go_wp2
        go_ret
        rw [hL.out]
        exact HP.out _
    · obtain ⟨m, rfl⟩ := Int.eq_ofNat_of_zero_le (show 0 ≤ n by omega)
      by_cases hlt : m < f.b.length
      · have hcl : clampN (m : Int) f.b.length = m := by have := hb.out; omega
        rw [hcl]
        clear hcl hb
        go_enter Tryd.func87, Tryd.ntmps87
        go_wp2_with fail
        refine HG.out.mono ?_
        rintro e w1 ⟨A1, cp1, rfl, l1, m1, r1, hb1⟩
        have hcut := cut_hi tBytes .i64 A1 f.b.length cp1 m (by omega)
        obtain ⟨L, hL⟩ : ∃ L, Hid (f.b.length = L) := ⟨_, rfl⟩
        rw [hL.out] at hcut r1 hlt l1 ⊢
        have hb3 : Below w.heap.size w (w1.alloc (.cells #[.string f.name, .slice A1 m cp1, .int .i64 0] 191)) := hb1.alloc hb1.size _
        have r3 : RS (kInt .u8) (w1.alloc (.cells #[.string f.name, .slice A1 m cp1, .int .i64 0] 191)) (fun k => F k ∧ k ≠ rb ∧ k < w.heap.size) A1 m (f.b.take m) := (r1.take_ m (by omega)).alloc _
        have HX := Lib.hid (And.intro hb3 r3)
        clear hb1 hb3 r1 r3 HG
        go_wp2_with fail
        obtain ⟨hb3, r3⟩ := HX.out
        generalize w1.alloc (.cells #[.string f.name, .slice A1 m cp1, .int .i64 0] 191) = w3 at hb3 r3 ⊢
        refine (rput_back rb ⟨f.name, f.b.take m, 0⟩ A1 cp1 m w w3 F room l A c H.out hb3 hn (by rw [List.length_take, hL.out]; omega) (by omega) m1 r3).mono ?_
        rintro e w4 ⟨rfl, hP⟩
        have HP := Lib.hid hP
        clear hb3 r3 hP HX hcut
        go_wp2
        go_ret
        exact HP.out _
      · have hcl : clampN (m : Int) f.b.length = f.b.length := by have := hb.out; omega
        rw [hcl]
        clear hcl hb
        go_enter Tryd.func87, Tryd.ntmps87
        go_wp2_with fail
        refine HG.out.mono ?_
        rintro e w1 ⟨A1, cp1, rfl, l1, m1, r1, hb1⟩
        obtain ⟨L, hL⟩ : ∃ L, Hid (f.b.length = L) := ⟨_, rfl⟩
        rw [hL.out] at r1 hlt l1 ⊢
        have hb3 : Below w.heap.size w (w1.alloc (.cells #[.string f.name, .slice A1 L cp1, .int .i64 0] 191)) := hb1.alloc hb1.size _
        have r3 : RS (kInt .u8) (w1.alloc (.cells #[.string f.name, .slice A1 L cp1, .int .i64 0] 191)) (fun k => F k ∧ k ≠ rb ∧ k < w.heap.size) A1 L (f.b.take L) := (by rw [List.take_of_length_le (by have := hL.out; omega)]; exact r1.alloc _)
        have HX := Lib.hid (And.intro hb3 r3)
        clear hb1 hb3 r1 r3 HG
        go_wp2_with fail
        obtain ⟨hb3, r3⟩ := HX.out
        generalize w1.alloc (.cells #[.string f.name, .slice A1 L cp1, .int .i64 0] 191) = w3 at hb3 r3 ⊢
        refine (rput_back rb ⟨f.name, f.b.take L, 0⟩ A1 cp1 L w w3 F room l A c H.out hb3 hn (by rw [List.length_take]; have := hL.out; omega) (by omega) m1 r3).mono ?_
        rintro e w4 ⟨rfl, hP⟩
        have HP := Lib.hid hP
        clear hb3 r3 hP HX
        go_wp2
        go_ret
        rw [hL.out]
        exact HP.out _
  · rw [if_neg e00]
    have eb : (e0 != 0) = true := by rw [bne_iff_ne]; exact e00
    clear e00
    go_enter Tryd.func87, Tryd.ntmps87
    go_wp2_with fail
    refine HG.out.mono ?_
    rintro e w1 ⟨A1, cp1, rfl, l1, m1, r1, hb1⟩
    have hb2 : Below w.heap.size w (w1.alloc (.cells #[.string f.name, .slice A1 f.b.length cp1, .int .i64 f.loose] 191)) := hb1.alloc hb1.size _
    have HX := Lib.hid hb2
    clear hb1 hb2 r1
    go_wp2
    go_ret
    exact RPost.same H.out HX.out
end Go.Proofs.YtfjndjbpgcggkaaDoor
