/- The document's own disk: Append. -/
import Derived.Test.YtfjndjbpgcggkaaDoorDR4
import Derived.Test.YtfjndjbpgcggkaaDoorDK15
set_option linter.unusedVariables false
set_option linter.unusedSimpArgs false
namespace Go.Proofs.YtfjndjbpgcggkaaDoor
open Go.RowKit
attribute [local go_sem] Same.cell

def rappE (s : ByteArray) (n : Nat) (room : Int) (l : List RFile) : Int := if validName s = false then 6 else if (n : Int) > room - rsum l then 7 else 0
/-- The file that is there, or an empty one. -/
def rfile (s : ByteArray) (l : List RFile) : RFile := if isAt s l = true then l[kp s l]?.getD ⟨s, [], 0⟩ else ⟨s, [], 0⟩
def rappL (s : ByteArray) (b : List Int) (room : Int) (l : List RFile) : List RFile := if rappE s b.length room l = 0 then rput ⟨(rfile s l).name, (rfile s l).b ++ b, (rfile s l).loose + b.length⟩ l else l
def RPost (w : World) (F : Foot) (rb : Nat) (room : Int) (l' : List RFile) (err : Int) (en : Ending) (w' : World) : Prop :=
  en = .returned (.int .i64 err) ∧ (∃ A' c', RefAt w' (Grow F w w') rb room l' A' c') ∧ Keeps (fun k => k = rb) w w'
theorem RefAt.below {w w' : World} {F : Foot} {rb : Nat} {room : Int} {l : List RFile} {A : Option Addr} {c : Nat} (h : RefAt w F rb room l A c) (hb : Below w.heap.size w w') : RefAt w' F rb room l A c :=
  ⟨(hb.block rb (Array.getElem?_eq_some_iff.1 h.cells).1).trans h.cells, h.fs, h.own.below hb⟩
theorem RefAt.mono {w : World} {F G : Foot} {rb : Nat} {room : Int} {l : List RFile} {A : Option Addr} {c : Nat} (h : RefAt w F rb room l A c) (hG : ∀ k, F k → G k) : RefAt w G rb room l A c :=
  ⟨h.cells, hG _ h.fs, h.own.mono fun k hk => ⟨hG k hk.1, hk.2⟩⟩
theorem below_drewN' {w : World} (n : Nat) : Below w.heap.size w (w.drewN n) := ⟨rfl, rfl, rfl, Nat.le_refl _, fun _ _ => rfl⟩

set_option maxHeartbeats 8000000 in
set_option maxRecDepth 100000 in
theorem rappend_any (rb : Nat) (s : ByteArray) (A4 : Option Addr) (c4 : Nat) (b : List Int) (w : World) (F G : Foot) (room : Int) (l : List RFile) (A : Option Addr) (c : Nat) (h : RefAt w F rb room l A c) (hn : l.length ≤ 1000000000) (ht : rsum l ≤ 1000000000000) (hroom : 0 ≤ room ∧ room ≤ 9223372036854775807) (hs : s.size ≤ 35184372088832)
    (hb4 : RS (kInt .u8) w G A4 b.length b) (hbl : b.length ≤ 1000000000000) (hlo : ∀ x ∈ l, 0 ≤ x.loose ∧ x.loose ≤ x.b.length) :
    Calls Tryd.prog 85 #[.pointer (some ⟨rb, 0, none⟩), .string s, .slice A4 b.length c4] w (RPost w F rb room (rappL s b room l) (rappE s b.length room l)) := by
  have HV := Lib.hid (fun w1 => RefValid_any s w1 hs)
  have hrlt : rb < w.heap.size := (Array.getElem?_eq_some_iff.1 h.cells).1
  have hsame : ∃ A' c', RefAt w (Grow F w w) rb room l A' c' := ⟨A, c, h.mono fun k hk => .inl hk⟩
  have H := Lib.hid (And.intro h hb4)
  cases hv : validName s with
  | false =>
    have he : rappE s b.length room l = 6 := by unfold rappE; rw [if_pos hv]
    have hl : rappL s b room l = l := by unfold rappL; rw [if_neg (by rw [he]; decide)]
    rw [he, hl]
    rw [hv] at HV
    clear hv he hl h hb4
    go_enter Tryd.func85, Tryd.ntmps85
    go_wp2_with fail
    refine (HV.out _).mono ?_
    rintro e w1 ⟨rfl, rfl⟩
    go_wp2
    go_ret
    exact ⟨rfl, hsame, Keeps.refl _ _⟩
  | true =>
    rw [hv] at HV
    have c0 : w.cell? ⟨rb, 0, none⟩ = some (.int .i64 room) := cell_of_row w rb 0 _ _ _ h.cells
    have HU := Lib.hid (fun n => rused_any rb (w.drewN n) F room l A c (h.below (below_drewN' n)) hn ht)
    obtain ⟨t, htt⟩ : ∃ t, Hid (rsum l = t) := ⟨_, rfl⟩
    rw [htt.out] at HU ht
    by_cases hfull : (b.length : Int) > room - t
    · have he : rappE s b.length room l = 7 := by unfold rappE; rw [if_neg (by rw [hv]; decide), htt.out, if_pos hfull]
      have hl : rappL s b room l = l := by unfold rappL; rw [if_neg (by rw [he]; decide)]
      rw [he, hl]
      clear hv he hl h hb4
      go_enter Tryd.func85, Tryd.ntmps85
      go_wp2_with fail
      refine (HV.out _).mono ?_
      rintro e w1 ⟨rfl, rfl⟩
      go_wp2_with fail
      go_quiet ((go_at_call 93; exact Calls.quiet_of_same (HU.out _)))
      go_wp2
      go_ret
      exact ⟨rfl, ⟨A, c, (H.out.1.below (below_drewN' _)).mono fun k hk => .inl hk⟩, Keeps.of_below (below_drewN' _) _⟩
    · have he : rappE s b.length room l = 0 := by unfold rappE; rw [if_neg (by rw [hv]; decide), htt.out, if_neg hfull]
      have hl : rappL s b room l = rput ⟨(rfile s l).name, (rfile s l).b ++ b, (rfile s l).loose + b.length⟩ l := by unfold rappL; rw [if_pos he]
      rw [he, hl]
      clear hv he hl h hb4
      go_enter Tryd.func85, Tryd.ntmps85
      go_wp2_with fail
      refine (HV.out _).mono ?_
      rintro e w1 ⟨rfl, rfl⟩
      go_wp2_with fail
      go_quiet ((go_at_call 93; exact Calls.quiet_of_same (HU.out _)))
      go_wp2_with fail
      refine (rfind_any rb s (w.drewN nq) F room l A c (H.out.1.below (below_drewN' nq)) hn).mono ?_
      rintro e w2 ⟨rfl, m, rfl⟩
      have hb2 : Below w.heap.size w ((w.drewN nq).drewN m) := ⟨rfl, rfl, rfl, Nat.le_refl _, fun _ _ => rfl⟩
      generalize (w.drewN nq).drewN m = w2 at hb2 ⊢
      have hs2 := hb2.size
      clear c0 HU HV
      cases hat : isAt s l with
      | false =>
        have hrf : rfile s l = ⟨s, [], 0⟩ := by unfold rfile; rw [if_neg (by rw [hat]; decide)]
        have HRF := Lib.hid hrf
        clear hrf
        obtain ⟨n, hbn⟩ : ∃ n, Hid (b.length = n) := ⟨_, rfl⟩
        have hb43 : RS (kInt .u8) (w2.alloc (.cells #[.string s, .slice none 0 0, .int .i64 0] 191)) (fun k => G k ∧ k < w.heap.size) A4 n b := by
          have := (H.out.2.bound.below hb2).alloc (.cells #[.string s, .slice none 0 0, .int .i64 0] 191)
          rwa [hbn.out] at this
        rw [hbn.out] at hbl ⊢
        have hb3 : Below w.heap.size w (w2.alloc (.cells #[.string s, .slice none 0 0, .int .i64 0] 191)) := hb2.alloc hb2.size _
        have hq3 := heap_alloc_new w2 (.cells #[.string s, .slice none 0 0, .int .i64 0] 191)
        have Hq3 := Lib.hid (And.intro hb3 hq3)
        clear hb3 hq3
        go_wp2_with (first
          | (at_builtin
             refine wpList_append_S rfl tBytes (.tmp 41) (.tmp 42) rfl (K := kInt .u8) (F := NoF) (v := .slice none 0 0) (xs := []) rfl rfl OwnS.nil hb43 (fun k hk => by simp [Value.ownBlock] at hk) ?_ ?_ ?_))
        · simp; omega
        · simp; omega
        intro v4 w4 hA
        obtain ⟨hb3, hq3⟩ := Hq3.out
        have hq3l : w2.heap.size < (w2.alloc (.cells #[.string s, .slice none 0 0, .int .i64 0] 191)).heap.size := by simp
        have hls : ∀ j, v4.ownBlock = some j → w2.heap.size < j := fun j hj => by
          rcases hA.lies j hj with h | h
          · simp [Value.ownBlock] at h
          · have := h.1; omega
        have hO4 : OwnS (kInt .u8) 5 w4 (fun j => w2.heap.size < j) v4 b := hA.own.flat (flat_int _) hls
        have hb4 : Below w.heap.size w w4 := hb3.trans (((Below.refl _ _).grown hA.grown (Nat.le_refl _) (by simp [Value.ownBlock])).mono hb3.size)
        have hq4 := (hA.grown.block w2.heap.size hq3l (by simp [Value.ownBlock])).trans hq3
        obtain ⟨A5, c5, rfl, hl5, hm5, hr5⟩ := hO4.reads
        have z0 : w4.cell? ⟨w2.heap.size, 0, none⟩ = some (.string s) := cell_of_row w4 _ 0 _ _ _ hq4
        have z2 : w4.cell? ⟨w2.heap.size, 2, none⟩ = some (.int .i64 0) := cell_of_row w4 _ 2 _ _ _ hq4
        have z1 : w4.cell? ⟨w2.heap.size, 1, none⟩ = some (.slice none 0 0) := cell_of_row w4 _ 1 _ _ _ hq4
        have f1 : w4.frozen? ⟨w2.heap.size, 1, none⟩ = false := frozen_of_row w4 _ 1 _ _ hq4
        have f2 : w4.frozen? ⟨w2.heap.size, 2, none⟩ = false := frozen_of_row w4 _ 2 _ _ hq4
        have H4 := Lib.hid (And.intro hb4 hr5)
        clear hA hb43 Hq3 hb3 hq3 hq3l hls hO4 hb4 hq4 hr5
        go_wp2_with fail
        have hb5 : Below w.heap.size w ((w4.setCell ⟨w2.heap.size, 1, none⟩ (.slice A5 b.length c5)).setCell ⟨w2.heap.size, 2, none⟩ (.int .i64 n)) := (H4.out.1.setCell (p := ⟨w2.heap.size, 1, none⟩) hs2 _).setCell (p := ⟨w2.heap.size, 2, none⟩) hs2 _
        have hr5 : RS (kInt .u8) ((w4.setCell ⟨w2.heap.size, 1, none⟩ (.slice A5 b.length c5)).setCell ⟨w2.heap.size, 2, none⟩ (.int .i64 n)) (fun j => w2.heap.size < j) A5 b.length b := (H4.out.2.far (p := ⟨w2.heap.size, 1, none⟩) (Nat.lt_irrefl _) _).far (p := ⟨w2.heap.size, 2, none⟩) (Nat.lt_irrefl _) _
        generalize (w4.setCell ⟨w2.heap.size, 1, none⟩ (.slice A5 b.length c5)).setCell ⟨w2.heap.size, 2, none⟩ (.int .i64 n) = w5 at hb5 hr5 ⊢
        refine (rput_any rb ⟨s, b, n⟩ A5 c5 w5 F (fun j => w2.heap.size < j) room l A c (H.out.1.below hb5) hn hl5 hm5 hr5 (by omega)).mono ?_
        rintro e w6 ⟨rfl, ⟨A6, c6, h6⟩, hk6⟩
        have H6 := Lib.hid (And.intro h6 (And.intro hk6 hb5))
        clear h6 hk6 hr5 hb5 z0 z1 z2 f1 f2 H4
        go_wp2
        go_ret
        obtain ⟨h6, hk6, hb5⟩ := H6.out
        have hs5 := hb5.size
        have hs6 := hk6.size
        refine ⟨rfl, ⟨A6, c6, ?_⟩, (Keeps.of_below hb5 _).trans hk6⟩
        rw [HRF.out, show (⟨(⟨s, [], 0⟩ : RFile).name, (⟨s, [], 0⟩ : RFile).b ++ b, (⟨s, [], 0⟩ : RFile).loose + b.length⟩ : RFile) = ⟨s, b, n⟩ by simp [hbn.out]]
        refine h6.mono fun j hj => ?_
        rcases hj with hj | hj | hj
        · exact .inl hj
        · exact .inr ⟨by have : w2.heap.size < j := hj.1; omega, by have := hj.2; omega⟩
        · exact .inr ⟨by have := hj.1; omega, hj.2⟩
      | true =>
        obtain ⟨x, hx, hxn⟩ := isAt_get s l hat
        have hxs : x.name = s := bytes_ext2 hxn
        have hrf : rfile s l = x := by unfold rfile; rw [if_pos hat, hx]; rfl
        have HRF := Lib.hid (And.intro hrf hxs)
        obtain ⟨n, hbn⟩ : ∃ n, Hid (b.length = n) := ⟨_, rfl⟩
        obtain ⟨A', c', hvv, hc, hm, hr⟩ := H.out.1.own.reads
        obtain ⟨rfl, rfl⟩ : A = A' ∧ c = c' := by injection hvv with h1 _ h2; exact ⟨h1, h2⟩
        have hb3 : Below w.heap.size w (w2.alloc (.cells #[.string s, .slice none 0 0, .int .i64 0] 191)) := hb2.alloc hb2.size _
        have hq3 := heap_alloc_new w2 (.cells #[.string s, .slice none 0 0, .int .i64 0] 191)
        have hr3 := hr.bound.below hb3
        have hcl3 := (hb3.block rb hrlt).trans H.out.1.cells
        have hb43 := H.out.2.bound.below hb3
        obtain ⟨ad, A1, cp1, hA0, hFa, k0, k1, k2, l1, m1, r1⟩ := at_RFile hr3 hx
        subst hA0
        have hlt := (List.getElem?_eq_some_iff.1 hx).1
        obtain ⟨lo1, lo2⟩ := hlo x (List.mem_of_getElem? hx)
        have hbx : x.b.length ≤ t := by
          have h1 := rsum_take l _ x hx
          have h2 := rsum_le l (kp s l + 1)
          have := htt.out
          omega
        rw [hbn.out] at hbl hb43 ⊢
        have hqw : w.heap.size ≤ w2.heap.size := hs2
        have hab : (ad.add (kp s l * 3)).block ≠ w2.heap.size := by rw [block_add]; have := hFa.2; omega
        have c13 : (w2.alloc (.cells #[.string s, .slice none 0 0, .int .i64 0] 191)).cell? ⟨rb, 1, none⟩ = some (.slice (some ad) l.length c) := cell_of_row _ rb 1 _ _ _ hcl3
        have hql : w2.heap.size < (w2.alloc (.cells #[.string s, .slice none 0 0, .int .i64 0] 191)).heap.size := by simp
        generalize kp s l = k at k0 k1 k2 hlt hab hx ⊢
        have H3 := Lib.hid (And.intro hb3 (And.intro hq3 (And.intro r1 (And.intro hb43 hql))))
        clear hrf hxs hx hxn hvv hr hb3 hq3 hr3 hcl3 hb43 r1 hql
        go_wp2_with (first
          | (at_builtin
             refine wpList_append_S rfl tBytes _ (.tmp 40) rfl (K := kInt .u8) (F := NoF) (G := fun j => (F j ∧ j ≠ rb) ∧ j < w.heap.size) (v := .slice none 0 0) (xs := []) (ys := x.b) rfl rfl OwnS.nil ?_ (fun k hk => by simp [Value.ownBlock] at hk) ?_ ?_ ?_))
        · exact H3.out.2.2.1.keep fun k hk _ => (Below.heap_alloc w2 _ _ (by have := hk.2; omega)).trans (Below.heap_alloc w2 _ _ (by have := hk.2; omega)).symm
        · simp; omega
        · simp; omega
        intro v4 w4 hA
        obtain ⟨hb3z, -, -, hb43z, -⟩ := H3.out
        have hb3 : Below w.heap.size w (w2.alloc (.cells #[.string x.name, .slice A1 x.b.length cp1, .int .i64 x.loose] 191)) := hb2.alloc hb2.size _
        have hq3 := heap_alloc_new w2 (.cells #[.string x.name, .slice A1 x.b.length cp1, .int .i64 x.loose] 191)
        have hql : w2.heap.size < (w2.alloc (.cells #[.string x.name, .slice A1 x.b.length cp1, .int .i64 x.loose] 191)).heap.size := by simp
        have hb43 : RS (kInt .u8) (w2.alloc (.cells #[.string x.name, .slice A1 x.b.length cp1, .int .i64 x.loose] 191)) (fun k => G k ∧ k < w.heap.size) A4 n b := hb43z.keep fun k hk _ => (Below.heap_alloc w2 _ _ (by have := hk.2; omega)).trans (Below.heap_alloc w2 _ _ (by have := hk.2; omega)).symm
        have hls : ∀ j, v4.ownBlock = some j → w2.heap.size < j := fun j hj => by
          rcases hA.lies j hj with h | h
          · simp [Value.ownBlock] at h
          · have := h.1; omega
        have hO4 : OwnS (kInt .u8) 5 w4 (fun j => w2.heap.size < j) v4 x.b := hA.own.flat (flat_int _) hls
        have hb34 := ((Below.refl _ _).grown hA.grown (Nat.le_refl _) (by simp [Value.ownBlock]))
        have hb4 : Below w.heap.size w w4 := hb3.trans (hb34.mono hb3.size)
        have hq4 := (hA.grown.block w2.heap.size hql (by simp [Value.ownBlock])).trans hq3
        have hb44 := hb43.below hb34
        obtain ⟨A8, n8, c8, rfl⟩ := hO4.shape
        have hs4 := hb4.size
        have hs24 : w2.heap.size < w4.heap.size := Nat.lt_of_lt_of_le hql hb34.size
        have H4 := Lib.hid (And.intro hb4 hq4)
        clear hA hb3z hb43z hb3 hq3 hql hb43 hb34 hb4 hq4 H3 k0 k1 k2 c13
        go_wp2_with (first
          | (at_builtin
             refine wpList_append_S rfl tBytes (.tmp 41) (.tmp 42) rfl (K := kInt .u8) rfl rfl hO4 hb44 ?_ ?_ ?_ ?_))
        · intro j hj hj2
          have := hls j hj
          have := hj2.2
          omega
        · omega
        · omega
        intro v5 w5 hA
        have hls5 : ∀ j, v5.ownBlock = some j → w2.heap.size < j := fun j hj => by
          rcases hA.lies j hj with h | h
          · exact hls j h
          · have := h.1; omega
        have hO5 : OwnS (kInt .u8) 5 w5 (fun j => w2.heap.size < j) v5 (x.b ++ b) := hA.own.flat (flat_int _) hls5
        have hb5 : Below w.heap.size w w5 := H4.out.1.grown hA.grown hs4 (fun j hj => by have := hls j hj; omega)
        have hq5 := (hA.grown.block w2.heap.size hs24 (fun e => by have := hls _ e.symm; omega)).trans H4.out.2
        obtain ⟨A5, c5, rfl, hl5, hm5, hr5⟩ := hO5.reads
        have z0 : w5.cell? ⟨w2.heap.size, 0, none⟩ = some (.string x.name) := cell_of_row w5 _ 0 _ _ _ hq5
        have z1 : w5.cell? ⟨w2.heap.size, 1, none⟩ = some (.slice A1 x.b.length cp1) := cell_of_row w5 _ 1 _ _ _ hq5
        have z2 : w5.cell? ⟨w2.heap.size, 2, none⟩ = some (.int .i64 x.loose) := cell_of_row w5 _ 2 _ _ _ hq5
        have f1 : w5.frozen? ⟨w2.heap.size, 1, none⟩ = false := frozen_of_row w5 _ 1 _ _ hq5
        have f2 : w5.frozen? ⟨w2.heap.size, 2, none⟩ = false := frozen_of_row w5 _ 2 _ _ hq5
        obtain ⟨ln, hln⟩ : ∃ q, Hid ((x.b ++ b).length = q) := ⟨_, rfl⟩
        have H5 := Lib.hid (And.intro hb5 (And.intro hr5 hl5))
        clear hA hO4 hb44 H4 hls hls5 hO5 hb5 hq5 hr5 hl5
        rw [hln.out]
        go_wp2_with fail
        have hb6 : Below w.heap.size w ((w5.setCell ⟨w2.heap.size, 1, none⟩ (.slice A5 ln c5)).setCell ⟨w2.heap.size, 2, none⟩ (.int .i64 (x.loose + n))) := (H5.out.1.setCell (p := ⟨w2.heap.size, 1, none⟩) hqw _).setCell (p := ⟨w2.heap.size, 2, none⟩) hqw _
        have hr6 : RS (kInt .u8) ((w5.setCell ⟨w2.heap.size, 1, none⟩ (.slice A5 ln c5)).setCell ⟨w2.heap.size, 2, none⟩ (.int .i64 (x.loose + n))) (fun j => w2.heap.size < j) A5 (x.b ++ b).length (x.b ++ b) := (H5.out.2.1.far (p := ⟨w2.heap.size, 1, none⟩) (Nat.lt_irrefl _) _).far (p := ⟨w2.heap.size, 2, none⟩) (Nat.lt_irrefl _) _
        generalize (w5.setCell ⟨w2.heap.size, 1, none⟩ (.slice A5 ln c5)).setCell ⟨w2.heap.size, 2, none⟩ (.int .i64 (x.loose + n)) = w6 at hb6 hr6 ⊢
        have hput := rput_any rb ⟨x.name, x.b ++ b, x.loose + n⟩ A5 c5 w6 F (fun j => w2.heap.size < j) room l (some ad) c (H.out.1.below hb6) hn H5.out.2.2 hm5 hr6 (by omega)
        dsimp only at hput
        rw [hln.out] at hput
        refine hput.mono ?_
        rintro e w7 ⟨rfl, ⟨A6, c6, h6⟩, hk6⟩
        have H6 := Lib.hid (And.intro h6 (And.intro hk6 hb6))
        clear h6 hk6 hr6 hb6 z0 z1 z2 f1 f2 H5 hput
        go_wp2
        go_ret
        obtain ⟨h6, hk6, hb5⟩ := H6.out
        have hs5 := hb5.size
        have hs6 := hk6.size
        refine ⟨rfl, ⟨A6, c6, ?_⟩, (Keeps.of_below hb5 _).trans hk6⟩
        rw [HRF.out.1, hbn.out]
        refine h6.mono fun j hj => ?_
        rcases hj with hj | hj | hj
        · exact .inl hj
        · exact .inr ⟨by have : w2.heap.size < j := hj.1; omega, by have := hj.2; omega⟩
        · exact .inr ⟨by have := hj.1; omega, hj.2⟩
end Go.Proofs.YtfjndjbpgcggkaaDoor
