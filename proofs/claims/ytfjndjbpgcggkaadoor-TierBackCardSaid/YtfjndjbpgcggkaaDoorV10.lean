/- frame.Get. -/
import Derived.Test.YtfjndjbpgcggkaaDoorV9
set_option linter.unusedVariables false
set_option linter.unusedSimpArgs false
namespace Go.Proofs.YtfjndjbpgcggkaaDoor
open Go.RowKit
attribute [local go_sem] Same.cell Same.frozen

def FGetPost (w : World) (r : List Int × Nat × Int) (e : Ending) (w' : World) : Prop :=
  ∃ (A' : Option Addr) (c' : Nat), e = .returned (.tuple #[.slice A' r.1.length c', .int .i64 r.2.1, .int .i64 r.2.2]) ∧ r.1.length ≤ c' ∧ c' ≤ 9223372036854775807 ∧ RS (kInt .u8) w' (New w w') A' r.1.length r.1 ∧ Below w.heap.size w w'
theorem FGetPost.no (w : World) (n : Nat) (e : Int) : FGetPost w ([], n, e) (.returned (.tuple #[.slice none 0 0, .int .i64 n, .int .i64 e])) w := ⟨none, 0, rfl, by simp, by omega, RS.nil, Below.refl _ _⟩
theorem sum4_bytes (x : Int) (h : 0 ≤ x ∧ x < 4294967296) : Bytes (sum4 x) := fun c hc => by
  simp only [sum4, List.mem_cons, List.not_mem_nil, or_false] at hc
  omega
theorem Bytes.sub {a b : List Int} (h : Bytes a) (hs : ∀ x ∈ b, x ∈ a) : Bytes b := fun c hc => h c (hs c hc)

set_option maxHeartbeats 8000000 in
set_option maxRecDepth 100000 in
theorem fGet_any (A : Option Addr) (L c : Nat) (bs : List Int) (w : World) (F : Foot) (hb : RS (kInt .u8) w F A L bs) (hL : L ≤ 100000000000) (hLc : L ≤ c) (hB : Bytes bs) :
    Calls Tryd.prog 118 #[.slice A L c] w (FGetPost w (fget bs)) := by
  have HV := Lib.hid (vGet_any A L c bs w F hb (by omega) hB)
  have hn0 := vgetGo_n bs 0 0
  have Hlen := Lib.hid hb.length
  unfold fget
  obtain ⟨x, hx⟩ : ∃ x, Hid ((vget bs).1 = x) := ⟨_, rfl⟩
  obtain ⟨n, hn⟩ : ∃ n, Hid ((vget bs).2.1 = n) := ⟨_, rfl⟩
  obtain ⟨e0, he⟩ : ∃ e, Hid ((vget bs).2.2 = e) := ⟨_, rfl⟩
  have hnl : n ≤ L := by
    rw [← hn.out, ← Hlen.out]
    exact hn0
  rw [hx.out, hn.out, he.out] at HV ⊢
  rw [Hlen.out]
  clear hn0 hx hn he
  by_cases h0 : e0 = 0
  rotate_left
  · have eb : (e0 != 0) = true := by rw [bne_iff_ne]; exact h0
    rw [if_pos h0]
    clear h0 hb
    go_enter Tryd.func118, Tryd.ntmps118
    go_wp2_with fail
    refine HV.out.mono ?_
    rintro e w' ⟨rfl, hw⟩
    rw [hw]
    clear hw w'
    go_wp2
    go_ret3
    exact FGetPost.no w 0 e0
  subst h0
  rw [if_neg (by simp)]
  by_cases hbig : 16777216 < x
  · rw [if_pos hbig]
    clear hb
    go_enter Tryd.func118, Tryd.ntmps118
    go_wp2_with fail
    refine HV.out.mono ?_
    rintro e w' ⟨rfl, hw⟩
    rw [hw]
    clear hw w'
    go_wp2
    go_ret3
    exact FGetPost.no w 0 3
  rw [if_neg hbig]
  by_cases hsh : L < n + 4 + x
  · rw [if_pos hsh]
    clear hb
    go_enter Tryd.func118, Tryd.ntmps118
    go_wp2_with fail
    refine HV.out.mono ?_
    rintro e w' ⟨rfl, hw⟩
    rw [hw]
    clear hw w'
    go_wp2
    go_ret3
    exact FGetPost.no w 0 4
  rw [if_neg hsh]
  obtain ⟨A1, hs1, ht1⟩ := cut_lh tBytes .i64 .i64 A L c (n + 4) (n + 4 + x) (by omega) (by omega) (by omega) hLc
  obtain ⟨A2, hs2, ht2⟩ := cut_lh tBytes .i64 .i64 A L c n (n + 4) (by omega) (by omega) (by omega) hLc
  have hr1 := ht1 (kInt .u8) w F bs rfl hb
  rw [show n + 4 + x - (n + 4) = x by omega] at hr1 hs1
  have hr2 := ht2 (kInt .u8) w F bs rfl hb
  rw [show n + 4 - n = 4 by omega] at hr2 hs2
  have hs1' : ∀ W, (Instr.slice 26 (.slice A L c) (some (.int .i64 ((n : Int) + 4))) (some (.int .i64 ((n : Int) + 4 + x))) none).run Tryd.prog W = .ok (.slice A1 x (c - (n + 4))) W := hs1
  have hs2' : ∀ W, (Instr.slice 26 (.slice A L c) (some (.int .i64 (n : Int))) (some (.int .i64 ((n : Int) + 4))) none).run Tryd.prog W = .ok (.slice A2 4 (c - n)) W := hs2
  have hBp : Bytes ((bs.drop (n + 4)).take x) := hB.sub fun y hy => List.mem_of_mem_drop (List.mem_of_mem_take hy)
  have hBs : Bytes ((bs.drop n).take 4) := hB.sub fun y hy => List.mem_of_mem_drop (List.mem_of_mem_take hy)
  have hpl : Hid (((bs.drop (n + 4)).take x).length = x) := by show _ = x; rw [List.length_take, List.length_drop, Hlen.out]; omega
  generalize (bs.drop (n + 4)).take x = p at hr1 hBp hpl ⊢
  generalize (bs.drop n).take 4 = s4 at hr2 hBs ⊢
  have HR2 := Lib.hid (And.intro hr2 (And.intro hBs hBp))
  obtain ⟨R, hR⟩ : ∃ R, Hid ((if s4 = sum4 (crcSum p) then (p, n + 4 + x, (0 : Int)) else ([], 0, 5)) = R) := ⟨_, rfl⟩
  rw [hR.out]
  obtain ⟨c1, hc1⟩ : ∃ c1, Hid (c - (n + 4) = c1) := ⟨_, rfl⟩
  obtain ⟨c2, hc2⟩ : ∃ c2, Hid (c - n = c2) := ⟨_, rfl⟩
  rw [hc1.out] at hs1'
  rw [hc2.out] at hs2'
  clear hb hs1 hs2 ht1 ht2 hr2 hBs hBp
  go_enter Tryd.func118, Tryd.ntmps118
  go_wp2_with fail
  refine HV.out.mono ?_
  rintro e w' ⟨rfl, hw⟩
  rw [hw]
  clear hw w'
  go_wp2_with (first
    | (at_builtin
       refine wpList_append_S rfl tBytes _ (.tmp 42) rfl (K := kInt .u8) (F := NoF) (v := .slice none 0 0) (xs := []) rfl rfl OwnS.nil hr1 (fun k hk => by simp [Value.ownBlock] at hk) ?_ ?_ ?_))
  · (try simp); omega
  · (try simp); omega
  intro v1 w1 hA
  have hb1 : Below w.heap.size w w1 := (Below.refl _ _).grown hA.grown (Nat.le_refl _) (by simp [Value.ownBlock])
  have hO1 : OwnS (kInt .u8) 5 w1 (New w w1) v1 p := OwnS.flat (G := New w w1) (flat_int _) hA.own fun j hj => by
    refine ⟨?_, (hA.own.lt j hj).2⟩
    rcases hA.lies j hj with h1 | h1
    · simp [Value.ownBlock] at h1
    · exact h1.1
  obtain ⟨A3, c3, rfl, hc3, hd3, hr3⟩ := hO1.reads
  rw [hpl.out] at hc3 hr3 ⊢
  have H1 := Lib.hid (And.intro hb1 (And.intro hr3 (HR2.out.1.below hb1)))
  clear hA hb1 hO1 hr3 hr1
  go_wp2_with fail
  refine wp_region_plan [0, 0, 0, 0, 0, 1, 1, 1, 1] (fun w' => ∃ D : Same NoF w1, w' = D.world) (by kernel_rfl) (by kernel_rfl) InSame.start ?_
  simp only [sel, selE, Nat.reduceEqDiff, reduceIte]
  repeat (go_big_quiet_step (fail))
  refine wpQuiet_nil ?_
  refine wpE_cons (fun N hN => ?_)
  go_wp2_with fail
  refine (cSum_any A3 x c3 p w1.drew _ H1.out.2.1.drew (by omega) HR2.out.2.2).mono ?_
  rintro e w' ⟨rfl, hw⟩
  rw [hw]
  clear hw w'
  go_wp2
  refine hN _ _ InSame.start ?_
  clear hN N
  refine wpE_cons (fun N hN => ?_)
  go_wp2_with fail
  refine (written_any (crcSum p) w1.drew (crcMore_range 0 p)).mono ?_
  rintro e w2 ⟨v2, rfl, hM2⟩
  obtain ⟨A4, c4, rfl, hc4, hd4, hr4⟩ := hM2.own.reads
  rw [show (sum4 (crcSum p)).length = 4 from rfl] at hc4 ⊢
  have hr4' : RS (kInt .u8) w2 (New w1.drew w2) A4 4 (sum4 (crcSum p)) := hr4
  have hb12 : Below w1.heap.size w1 w2 := (drawn_below w1 1).trans hM2.below
  have H2 := Lib.hid (And.intro hr4' hb12)
  clear hM2 hr4 hr4'
  go_wp2
  refine hN _ _ (InSame.of_below hb12) ?_
  clear hN N
  refine wpE_cons (fun N hN => ?_)
  go_wp2_with fail
  refine (bEqual_any A2 A4 4 4 c2 c4 s4 (sum4 (crcSum p)) w2 _ _ (H1.out.2.2.below hb12) H2.out.1 HR2.out.2.1 (sum4_bytes _ (crcMore_range 0 p))).mono ?_
  rintro e w' ⟨rfl, hw⟩
  rw [hw]
  clear hw w'
  obtain ⟨q, hq⟩ : ∃ q, Hid (decide (s4 = sum4 (crcSum p)) = q) := ⟨_, rfl⟩
  rw [hq.out]
  go_wp2
  refine hN _ _ (InSame.of_below hb12) ?_
  clear hN N
  refine wpE_cons (fun N hN => ?_)
  go_wp2
  refine hN _ _ (InSame.of_below hb12) ?_
  clear hN N
  refine wpE_nil ?_
  clear hb12
  cases q with
  | true =>
    have hs := Lib.hid (of_decide_eq_true hq.out)
    go_wp2
    go_ret3
    rw [← hR.out, if_pos hs.out]
    refine ⟨A3, c3, ?_, by show p.length ≤ c3; rw [hpl.out]; exact hc3, hd3, ?_, H1.out.1.trans (H2.out.2.mono H1.out.1.size)⟩
    · show _ = Ending.returned (.tuple #[.slice A3 p.length c3, .int .i64 ((n + 4 + x : Nat) : Int), .int .i64 0])
      rw [hpl.out]
      simp
    · show RS (kInt .u8) w2 (New w w2) A3 p.length p
      rw [hpl.out]
      exact (H1.out.2.1.below H2.out.2).mono fun k hk => ⟨hk.1, Nat.lt_of_lt_of_le hk.2 H2.out.2.size⟩
  | false =>
    have hs := Lib.hid (of_decide_eq_false hq.out)
    go_wp2
    go_ret3
    rw [← hR.out, if_neg hs.out]
    exact ⟨none, 0, rfl, by simp, by omega, RS.nil, H1.out.1.trans (H2.out.2.mono H1.out.1.size)⟩
end Go.Proofs.YtfjndjbpgcggkaaDoor
