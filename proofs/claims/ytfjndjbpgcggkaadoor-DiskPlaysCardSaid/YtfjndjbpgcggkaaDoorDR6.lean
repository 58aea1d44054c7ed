/- The document's own disk: Sync, Read, Loose. -/
import Derived.Test.YtfjndjbpgcggkaaDoorDR5
set_option linter.unusedVariables false
set_option linter.unusedSimpArgs false
namespace Go.Proofs.YtfjndjbpgcggkaaDoor
open Go.RowKit
attribute [local go_sem] Same.cell

def rsyncL (s : ByteArray) (l : List RFile) : List RFile := if (rgot s l).2 = 0 then rput ⟨(rgot s l).1.name, (rgot s l).1.b, 0⟩ l else l

theorem RPost.same {w w' : World} {F : Foot} {rb : Nat} {room : Int} {l : List RFile} {A : Option Addr} {c : Nat} {e : Int} (h : RefAt w F rb room l A c) (hb : Below w.heap.size w w') : RPost w F rb room l e (.returned (.int .i64 e)) w' :=
  ⟨rfl, ⟨A, c, (h.below hb).mono fun _ hk => .inl hk⟩, Keeps.of_below hb _⟩
/-- What a put of a file that came out of get, or is new, leaves. -/
theorem RPutPost.post {w w1 w' : World} {F G : Foot} {rb : Nat} {room : Int} {l' : List RFile} {e : Int} {en : Ending} (hb : Below w.heap.size w w1) (h : RPutPost w1 F G rb room l' en w') (hG : ∀ j, G j → F j ∨ w.heap.size ≤ j) : RPost w F rb room l' e (.returned (.int .i64 e)) w' := by
  obtain ⟨-, ⟨A', c', h1⟩, h2⟩ := h
  have hs := hb.size
  have hs2 := h2.size
  refine ⟨rfl, ⟨A', c', h1.mono fun j hj => ?_⟩, (Keeps.of_below hb _).trans h2⟩
  rcases hj with hj | hj | hj
  · exact .inl hj
  · rcases hG j hj.1 with hg | hg
    · exact .inl hg
    · exact .inr ⟨hg, by omega⟩
  · exact .inr ⟨by omega, hj.2⟩

set_option maxHeartbeats 4000000 in
set_option maxRecDepth 100000 in
theorem rsync_any (rb : Nat) (s : ByteArray) (w : World) (F : Foot) (room : Int) (l : List RFile) (A : Option Addr) (c : Nat) (h : RefAt w F rb room l A c) (hn : l.length ≤ 1000000000) (hs : s.size ≤ 35184372088832) :
    Calls Tryd.prog 86 #[.pointer (some ⟨rb, 0, none⟩), .string s] w (RPost w F rb room (rsyncL s l) (rgot s l).2) := by
  have HG := Lib.hid (rget_any rb s w F room l A c h hn hs)
  have H := Lib.hid h
  clear h
  unfold rsyncL
  generalize rgot s l = g at HG ⊢
  obtain ⟨f, e0⟩ := g
  dsimp only at HG ⊢
  by_cases e00 : e0 = 0
  · subst e00
    rw [if_pos rfl]
    go_enter Tryd.func86, Tryd.ntmps86
    go_wp2_with fail
    refine HG.out.mono ?_
    rintro e w1 ⟨A1, cp1, rfl, l1, m1, r1, hb1⟩
    have hb3 : Below w.heap.size w (w1.alloc (.cells #[.string f.name, .slice A1 f.b.length cp1, .int .i64 0] 191)) := hb1.alloc hb1.size _
    have r3 := r1.alloc (.cells #[.string f.name, .slice A1 f.b.length cp1, .int .i64 0] 191)
    have HX := Lib.hid (And.intro hb3 r3)
    clear hb1 hb3 r1 r3 HG
    go_wp2_with fail
    obtain ⟨hb3, r3⟩ := HX.out
    generalize w1.alloc (.cells #[.string f.name, .slice A1 f.b.length cp1, .int .i64 0] 191) = w3 at hb3 r3 ⊢
    refine (rput_any rb ⟨f.name, f.b, 0⟩ A1 cp1 w3 F (fun k => F k ∧ k ≠ rb ∧ k < w.heap.size) room l A c (H.out.below hb3) hn l1 m1 r3 (fun h => h.2.1 rfl)).mono ?_
    rintro e w4 hP
    have HP := Lib.hid (And.intro hb3 hP)
    obtain rfl := hP.1
    clear hb3 r3 hP HX
    go_wp2
    go_ret
    exact RPutPost.post HP.out.1 HP.out.2 (fun j hj => .inl hj.1)
  · rw [if_neg e00]
    have eb : (e0 != 0) = true := by rw [bne_iff_ne]; exact e00
    clear e00
    go_enter Tryd.func86, Tryd.ntmps86
    go_wp2_with fail
    refine HG.out.mono ?_
    rintro e w1 ⟨A1, cp1, rfl, l1, m1, r1, hb1⟩
    have hb2 : Below w.heap.size w (w1.alloc (.cells #[.string f.name, .slice A1 f.b.length cp1, .int .i64 f.loose] 191)) := hb1.alloc hb1.size _
    have HX := Lib.hid hb2
    clear hb1 hb2 r1
    go_wp2
    go_ret
    exact RPost.same H.out HX.out

def RReadPost (w : World) (b : List Int) (err : Int) (en : Ending) (w' : World) : Prop :=
  ∃ (A : Option Addr) (cp : Nat), en = .returned (.tuple #[.slice A b.length cp, .int .i64 err]) ∧ RS (kInt .u8) w' (New w w') A b.length b ∧ Below w.heap.size w w'
set_option maxHeartbeats 4000000 in
set_option maxRecDepth 100000 in
theorem rread_any (rb : Nat) (s : ByteArray) (w : World) (F : Foot) (room : Int) (l : List RFile) (A : Option Addr) (c : Nat) (h : RefAt w F rb room l A c) (hn : l.length ≤ 1000000000) (hs : s.size ≤ 35184372088832) (hbl : (rgot s l).1.b.length ≤ 1000000000000) :
    Calls Tryd.prog 91 #[.pointer (some ⟨rb, 0, none⟩), .string s] w (RReadPost w (rgot s l).1.b (rgot s l).2) := by
  have HG := Lib.hid (rget_any rb s w F room l A c h hn hs)
  clear h
  generalize rgot s l = g at HG hbl ⊢
  obtain ⟨f, e0⟩ := g
  dsimp only at HG hbl ⊢
  go_enter Tryd.func91, Tryd.ntmps91
  go_wp2_with fail
  refine HG.out.mono ?_
  rintro e w1 ⟨A1, cp1, rfl, l1, m1, r1, hb1⟩
  have hb2 : Below w.heap.size w (w1.alloc (.cells #[.string f.name, .slice A1 f.b.length cp1, .int .i64 f.loose] 191)) := hb1.alloc hb1.size _
  have r2 := r1.alloc (.cells #[.string f.name, .slice A1 f.b.length cp1, .int .i64 f.loose] 191)
  have hs1 := hb1.size
  have HX := Lib.hid hb2
  clear hb1 hb2 r1 HG
  go_wp2_with (first
    | (at_builtin
       refine wpList_append_S rfl tBytes _ (.tmp 15) rfl (K := kInt .u8) (F := NoF) (v := .slice none 0 0) (xs := []) rfl rfl OwnS.nil r2 (fun k hk => by simp [Value.ownBlock] at hk) ?_ ?_ ?_))
  · simp; omega
  · simp; omega
  intro v4 w4 hA
  have hO4 : OwnS (kInt .u8) 5 w4 (New w w4) v4 f.b := hA.own.flat (flat_int _) fun j hj => by
    have h2 := (hA.own.lt j hj).2
    rcases hA.lies j hj with h | h
    · simp [Value.ownBlock] at h
    · have := h.1
      have := HX.out.size
      exact ⟨by omega, h2⟩
  have hb4 : Below w.heap.size w w4 := HX.out.trans (((Below.refl _ _).grown hA.grown (Nat.le_refl _) (by simp [Value.ownBlock])).mono HX.out.size)
  obtain ⟨A5, c5, rfl, hl5, hm5, hr5⟩ := hO4.reads
  have H5 := Lib.hid (And.intro hr5 hb4)
  clear hA hO4 hb4 r2 hr5
  go_wp2
  go_ret2
  exact ⟨A5, c5, rfl, H5.out.1, H5.out.2⟩

set_option maxHeartbeats 4000000 in
set_option maxRecDepth 100000 in
theorem rloose_any (rb : Nat) (s : ByteArray) (w : World) (F : Foot) (room : Int) (l : List RFile) (A : Option Addr) (c : Nat) (h : RefAt w F rb room l A c) (hn : l.length ≤ 1000000000) (hs : s.size ≤ 35184372088832) :
    Calls Tryd.prog 92 #[.pointer (some ⟨rb, 0, none⟩), .string s] w fun e w' => e = .returned (.int .i64 (rgot s l).1.loose) ∧ Below w.heap.size w w' := by
  have HG := Lib.hid (rget_any rb s w F room l A c h hn hs)
  clear h
  generalize rgot s l = g at HG ⊢
  obtain ⟨f, e0⟩ := g
  dsimp only at HG ⊢
  go_enter Tryd.func92, Tryd.ntmps92
  go_wp2_with fail
  refine HG.out.mono ?_
  rintro e w1 ⟨A1, cp1, rfl, l1, m1, r1, hb1⟩
  have hb2 : Below w.heap.size w (w1.alloc (.cells #[.string f.name, .slice A1 f.b.length cp1, .int .i64 f.loose] 191)) := hb1.alloc hb1.size _
  have HX := Lib.hid hb2
  clear hb1 hb2 r1 HG
  go_wp2
  go_ret
  exact ⟨rfl, HX.out⟩
end Go.Proofs.YtfjndjbpgcggkaaDoor
