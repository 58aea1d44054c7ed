/- The law StoreRoom, walked. -/
import Derived.Test.YtngmipppgnlkdaaDoorDS9
import Derived.Test.YtngmipppgnlkdaaDoorX
set_option linter.unusedVariables false
set_option linter.unusedSimpArgs false
namespace Go.Proofs.YtngmipppgnlkdaaDoor
open Go.RowKit

theorem look_oset_same (s : ByteArray) (b o : List Int) : ∀ c : Objs, look s c = some o → look s (oset s b c) = some b
  | [], h => by cases h
  | x :: r, h => by
    unfold look at h
    by_cases hs : s = x.1
    · simp [oset, hs, look]
    · rw [if_neg hs] at h
      simp [oset, hs, look, look_oset_same s b o r h]
theorem look_oset_other (s t : ByteArray) (b : List Int) (h : t ≠ s) : ∀ c : Objs, look t (oset s b c) = look t c
  | [] => rfl
  | x :: r => by
    unfold oset
    by_cases hs : s = x.1
    · rw [if_pos hs]
      have : t ≠ x.1 := fun e => h (e.trans hs.symm)
      simp [look, this]
    · rw [if_neg hs]
      simp [look, look_oset_other s t b h r]
theorem look_app (s t : ByteArray) (b : List Int) : ∀ c : Objs, look t (c ++ [(s, b)]) = match look t c with | some o => some o | none => if t = s then some b else none
  | [] => by simp [look]
  | x :: r => by
    by_cases ht : t = x.1
    · simp [look, ht]
    · simp [look, ht, look_app s t b r]
theorem look_oput_same (s : ByteArray) (b : List Int) (c : Objs) : look s (oput s b c) = some b := by
  unfold oput
  cases h : look s c with
  | none => show look s (c ++ [(s, b)]) = _; rw [look_app, h]; simp
  | some o => exact look_oset_same s b o c h
theorem look_oput_other (s t : ByteArray) (b : List Int) (c : Objs) (h : t ≠ s) : look t (oput s b c) = look t c := by
  unfold oput
  cases hl : look s c with
  | none =>
    show look t (c ++ [(s, b)]) = _
    rw [look_app]
    cases look t c with
    | none => simp [h]
    | some o => rfl
  | some o => exact look_oset_other s t b h c
theorem szOf_same (s : ByteArray) (b : List Int) (c : Objs) : szOf s (oput s b c) = b.length := by unfold szOf; rw [look_oput_same]
theorem szOf_other (s t : ByteArray) (b : List Int) (c : Objs) (h : t ≠ s) : szOf t (oput s b c) = szOf t c := by unfold szOf; rw [look_oput_other s t b c h]

def nA : ByteArray := ⟨#[97]⟩
def nB : ByteArray := ⟨#[98]⟩
def nC : ByteArray := ⟨#[99]⟩
structure Sizes (c : Objs) (z0 z1 z2 : Nat) : Prop where
  a : szOf nA c = z0
  b : szOf nB c = z1
  c' : szOf nC c = z2
  t : tot c = z0 + z1 + z2
theorem neAB : nA ≠ nB := by decide
theorem neAC : nA ≠ nC := by decide
theorem neBC : nB ≠ nC := by decide
theorem Sizes.put0 {c : Objs} {z0 z1 z2 : Nat} (h : Sizes c z0 z1 z2) (x : List Int) : Sizes (oput nA x c) x.length z1 z2 :=
  ⟨szOf_same _ _ _, (szOf_other _ _ _ _ neAB.symm).trans h.b, (szOf_other _ _ _ _ neAC.symm).trans h.c', by have := tot_put nA x c; have := h.a; have := h.t; omega⟩
theorem Sizes.put1 {c : Objs} {z0 z1 z2 : Nat} (h : Sizes c z0 z1 z2) (x : List Int) : Sizes (oput nB x c) z0 x.length z2 :=
  ⟨(szOf_other _ _ _ _ neAB).trans h.a, szOf_same _ _ _, (szOf_other _ _ _ _ neBC.symm).trans h.c', by have := tot_put nB x c; have := h.b; have := h.t; omega⟩
theorem Sizes.put2 {c : Objs} {z0 z1 z2 : Nat} (h : Sizes c z0 z1 z2) (x : List Int) : Sizes (oput nC x c) z0 z1 x.length :=
  ⟨(szOf_other _ _ _ _ neAC).trans h.a, (szOf_other _ _ _ _ neBC).trans h.b, szOf_same _ _ _, by have := tot_put nC x c; have := h.c'; have := h.t; omega⟩

theorem num_any (n : Int) (w : World) : Calls Tryd.prog 11 #[.int .i64 n] w fun e w' => e = .returned (.int .i64 n) ∧ w = w' := by
  go_enter Tryd.func11, Tryd.ntmps11
  go_wp2
  go_ret
  exact ⟨rfl, rfl⟩
theorem i64_and1023 (n : Int) : bits .and .i64 n 1023 = n % 1024 := by
  have h62 : (BitVec.ofInt 64 1023).toNat = 2 ^ 10 - 1 := by decide
  have key : (BitVec.ofInt 64 n &&& BitVec.ofInt 64 1023).toNat = (n % ((2 ^ 64 : Nat) : Int)).toNat % 2 ^ 10 := by
    rw [BitVec.toNat_and, BitVec.toNat_ofInt, h62, Nat.and_two_pow_sub_one_eq_mod]
  show IntKind.i64.wrap ((BitVec.ofInt 64 n &&& BitVec.ofInt 64 1023).toNat : Nat) = n % 1024
  rw [key, IntKind.wrap_i64]
  omega
theorem i64_and127 (n : Int) : bits .and .i64 n 127 = n % 128 := by
  have h62 : (BitVec.ofInt 64 127).toNat = 2 ^ 7 - 1 := by decide
  have key : (BitVec.ofInt 64 n &&& BitVec.ofInt 64 127).toNat = (n % ((2 ^ 64 : Nat) : Int)).toNat % 2 ^ 7 := by
    rw [BitVec.toNat_and, BitVec.toNat_ofInt, h62, Nat.and_two_pow_sub_one_eq_mod]
  show IntKind.i64.wrap ((BitVec.ofInt 64 n &&& BitVec.ofInt 64 127).toNat : Nat) = n % 128
  rw [key, IntKind.wrap_i64]
  omega

set_option maxHeartbeats 8000000 in
set_option maxRecDepth 100000 in
theorem Room_law (room : Int) (A1 : Option Addr) (c1 : Nat) (l : List Int) (w : World) (hr0 : -9223372036854775808 ≤ room) (hr1 : room ≤ 9223372036854775807) (hra : RS (kInt .i64) w (Old w) A1 l.length l) (hT : TabsBelow w.heap.size w) (hlm : l.length ≤ 1000000000000000) :
    Calls Tryd.prog 3 #[.int .i64 room, .slice A1 l.length c1] w fun e w' => e = .returned (.bool true) ∧ Below w.heap.size w w' := by
  have hE0 : Env w.heap.size w := ⟨hT, Nat.le_refl _⟩
  have HS := Lib.hid (salive_any w hT)
  obtain ⟨B, hB⟩ : ∃ B, Hid (w.heap.size = B) := ⟨_, rfl⟩
  have hOld : ∀ k, Old w k → k < B := fun k hk => by rw [← hB.out]; exact hk
  generalize Old w = G at hra hOld
  rw [hB.out] at hE0 HS ⊢
  clear hT
  have HE0 := Lib.hid hE0
  clear hE0
  by_cases g : room < 0 ∨ room > 500 ∨ l.length > 30
  · by_cases g1 : room < 0
    · clear g
      go_enter Tryd.func3, Tryd.ntmps3
      go_wp2_with fail
      refine HS.out.mono ?_
      rintro e w1 ⟨rfl, hb1⟩
      go_wp2
      go_ret
      exact ⟨rfl, hb1⟩
    · have g1' : 0 ≤ room := by omega
      by_cases g2 : 500 < room
      · clear g g1
        go_enter Tryd.func3, Tryd.ntmps3
        go_wp2_with fail
        refine HS.out.mono ?_
        rintro e w1 ⟨rfl, hb1⟩
        go_wp2
        go_ret
        exact ⟨rfl, hb1⟩
      · have g2' : room ≤ 500 := by omega
        have g3 : 30 < l.length := by omega
        clear g g1 g2
        go_enter Tryd.func3, Tryd.ntmps3
        go_wp2_with fail
        refine HS.out.mono ?_
        rintro e w1 ⟨rfl, hb1⟩
        go_wp2
        go_ret
        exact ⟨rfl, hb1⟩
  · have g1 : 0 ≤ room := by omega
    have g2 : room ≤ 500 := by omega
    have g3 : l.length ≤ 30 := by omega
    clear g
    go_enter Tryd.func3, Tryd.ntmps3
    go_wp2_with fail
    refine HS.out.mono ?_
    rintro e w1 ⟨rfl, hb1⟩
    have hE1 := HE0.out.step hb1
    go_wp2_with fail
    refine (sNew B room w1 hE1 (by omega) (by omega)).mono ?_
    rintro e w2 ⟨sb, rfl, h2, hb2⟩
    have hb2 := hb1.trans (hb2.mono hE1.le)
    generalize New w1 w2 = F2 at h2
    rw [show max 0 room = room by omega] at h2
    have hzF : ¬ F2 w2.heap.size := fun hk => Nat.lt_irrefl _ (h2.fin _ hk)
    clear hb1 hE1
    go_wp2
    have hzb : SW B (w2.alloc (.cells #[.int .i64 0, .int .i64 0, .int .i64 0] 26)) F2 sb room [] [] := h2.below ((Below.refl _ _).alloc (Nat.le_refl _) _)
    have hzn := heap_alloc_new w2 (.cells #[.int .i64 0, .int .i64 0, .int .i64 0] 26)
    have hb3 : Below B w (w2.alloc (.cells #[.int .i64 0, .int .i64 0, .int .i64 0] 26)) := hb2.alloc (by have := h2.env.le; omega) _
    have hBz : B ≤ w2.heap.size := h2.env.le
    generalize w2.alloc (.cells #[.int .i64 0, .int .i64 0, .int .i64 0] 26) = w3 at hzb hzn hb3 ⊢
    generalize w2.heap.size = zb at hzF hzn hBz ⊢
    clear h2 hb2
    go_loopw [8] (fun i wr => ∃ (k z0 z1 z2 : Nat) (F : Foot) (c : Objs), i = .int .i64 k ∧ k ≤ l.length ∧ SW B wr F sb room [] c ∧ ¬ F zb ∧ wr.heap[zb]? = some (.cells #[.int .i64 z0, .int .i64 z1, .int .i64 z2] 26 (0, 0)) ∧ Hid (Sizes c z0 z1 z2) ∧ z0 + z1 + z2 ≤ 500 ∧ (z0 + z1 + z2 : Int) ≤ room ∧ Below B w wr) (fun i _ => l.length - (intOf i).toNat)
    case atStart =>
      exact ⟨0, 0, 0, 0, F2, [], rfl, by omega, hzb, hzF, hzn, ⟨rfl, rfl, rfl, rfl⟩, by omega, by omega, hb3⟩
    case round =>
      obtain ⟨k, z0, z1, z2, F, c, rfl, hk, hW, hnF, hz, hS, hz5, hzr, hB⟩ := hrel
      by_cases hlt : k < l.length
      · obtain ⟨x, hx⟩ : ∃ x, l[k]? = some x := ⟨_, List.getElem?_eq_getElem hlt⟩
        have hrar : RS (kInt .i64) wr G A1 l.length l := hra.keep fun k hk _ => hB.block k (hOld k hk)
        obtain ⟨ad, hA0, hFa, k0⟩ := at_int hrar hx
        subst hA0
        have Hx := Lib.hid hx
        clear hx hrar
        have e1 := i64_and1023 x
        obtain ⟨n, hn⟩ : ∃ n : Nat, x / 1024 % 128 = (n : Int) := ⟨(x / 1024 % 128).toNat, by omega⟩
        have hn127 : n ≤ 127 := by omega
        have e2 := i64_and127 (x / 1024)
        rw [hn] at e2
        have Hn := Lib.hid hn
        clear hn
        have hzlt : zb < wr.heap.size := (Array.getElem?_eq_some_iff.1 hz).1
        have Hz := Lib.hid hz
        have hq : (x % 1024).tmod 3 = 0 ∨ (x % 1024).tmod 3 = 1 ∨ (x % 1024).tmod 3 = 2 := by
          rw [Int.tmod_eq_emod_of_nonneg (by omega)]
          omega
        clear hz
        rcases hq with hq | hq | hq
        · have hsl : ∀ W : World, (Instr.slice 9 (.string ⟨#[97, 98, 99]⟩) (some (.int .i64 0)) (some (.int .i64 1)) none).run Tryd.prog W = .ok (.string nA) W := fun W => by kernel_rfl
          obtain ⟨W5, hmk, hO, hb5⟩ := run_make_S (P := Tryd.prog) (K := kInt .u8) (x := 0) tBytes rfl (z := .int .u8 0) (by kernel_rfl) rfl (fun _ _ => rfl) wr.drew n (by omega) (by omega)
          obtain ⟨A5, c5, hv5, -, -, hr5⟩ := hO.reads
          rw [List.length_replicate] at hv5 hr5
          injection hv5 with hA5 _ hc5
          subst hA5 hc5
          have hW5 : SW B W5 F sb room [] c := hW.below (below_undrew hb5)
          have hap : Apart (New wr.drew W5) F := fun k h1 h2 => by have := hW.fin k h2; have := h1.1; rw [World.size_drew] at this; omega
          have hz5' : W5.heap[zb]? = _ := (hb5.block zb hzlt).trans Hz.out
          have hB5 : Below B w W5 := hB.trans ((below_undrew hb5).mono hW.env.le)
          have Hz5 := Lib.hid hz5'
          have hzlt5 : zb < W5.heap.size := by have := hb5.size; rw [World.size_drew] at this; omega
          clear hO hb5 hz5'
          obtain ⟨xs, hxs⟩ : ∃ xs : List Int, Hid (List.replicate n 0 = xs) := ⟨_, rfl⟩
          have hxl : Hid (xs.length = n) := by show xs.length = n; rw [← hxs.out, List.length_replicate]
          rw [hxs.out] at hr5
          go_wp2
          refine wp_region_plan [0, 0, 0, 0, 0, 0, 1, 1, 1] (fun w' => ∃ D : Same (fun k => True) wr, w' = D.world) (by kernel_rfl) (by kernel_rfl) InSame.start ?_
          simp only [sel, selE, Nat.reduceEqDiff, reduceIte]
          repeat (go_big_quiet_step (fail))
          refine wpQuiet_nil ?_
          refine wpE_cons (fun N hN => ?_)
          go_wp2
          refine hN _ _ ⟨⟨W5, fun k hk hn => absurd trivial hn⟩, rfl⟩ ?_
          clear hN N
          refine wpE_cons (fun N hN => ?_)
          go_wp2_with fail
          refine (sPut B sb nA _ n n xs W5 F _ _ _ _ hW5 (by decide) hr5 hap (by omega) (by have := hS.out.t; omega)).mono ?_
          rintro e w6 ⟨rfl, h6, hk6⟩
          rw [show how ([] : List Int) = 0 from rfl, doC_0] at h6
          rw [show how ([] : List Int) = 0 from rfl, toldE_0]
          have hz6 : w6.heap[zb]? = _ := (hk6.block zb hzlt5 hnF).trans Hz5.out
          have hB6 := hB5.trans (hW5.belowB hk6)
          have hnF6 : ¬ Grow F W5 w6 zb := fun hk => by
            rcases hk with hk | hk
            · exact hnF hk
            · have := hk.1; omega
          have hzlt6 : zb < w6.heap.size := by have := hk6.size; omega
          generalize Grow F W5 w6 = F6 at h6 hnF6
          have HK6 : Hid (∀ e : Int, (putErr nA xs room c = if (n : Int) - z0 > room - (z0 + z1 + z2) then 7 else 0)) := fun _ => by
            unfold putErr
            rw [show validName nA = true from valid_a, if_neg (by decide), hxl.out, hS.out.a, hS.out.t]
            rfl
          clear hk6 hW5 hW hB hB5 hr5 hap hmk
          by_cases hok : (z0 : Int) + z1 + z2 - z0 + n ≤ room
          · have he : putErr nA xs room c = 0 := by rw [HK6.out 0, if_neg (by omega)]
            have hc : putC nA xs room c = oput nA xs c := by unfold putC; rw [he]; rfl
            have hS6 : Hid (Sizes (oput nA xs c) n z1 z2) := by
              have := hS.out.put0 xs
              rwa [hxl.out] at this
            have hgE : getE 0 nA (oput nA xs c) = 0 := by
              unfold getE found
              rw [show validName nA = true from valid_a, if_neg (by decide), look_oput_same]
              rfl
            have hgB : (getB 0 nA (oput nA xs c)).length = n := by
              unfold getB found
              rw [hgE, show validName nA = true from valid_a, if_pos rfl, if_neg (by decide), look_oput_same]
              exact hxl.out
            rw [hc] at h6
            rw [he]
            have HG := Lib.hid (And.intro hgE hgB)
            clear he hc hgE hgB
            have q0 : w6.cell? ⟨zb, 0, none⟩ = some (.int .i64 z0) := cell_of_row w6 zb 0 _ _ _ hz6
            have q1 : w6.cell? ⟨zb, 1, none⟩ = some (.int .i64 z1) := cell_of_row w6 zb 1 _ _ _ hz6
            have q2 : w6.cell? ⟨zb, 2, none⟩ = some (.int .i64 z2) := cell_of_row w6 zb 2 _ _ _ hz6
            have Hz6 := Lib.hid hz6
            clear hz6
            go_wp2
            refine hN _ _ ⟨⟨w6, fun k hk hn => absurd trivial hn⟩, rfl⟩ ?_
            clear hN N
            refine wpE_cons (fun N hN => ?_)
            go_wp2
            refine hN _ _ ⟨⟨w6, fun k hk hn => absurd trivial hn⟩, rfl⟩ ?_
            refine wpE_nil ?_
            clear hN N
            go_wp2
            go_quiet (fail)
            have h7 : SW B (w6.drewN nq) F6 sb room [] (oput nA xs c) := h6.below ⟨rfl, rfl, rfl, Nat.le_refl _, fun _ _ => rfl⟩
            have hz7 : (w6.drewN nq).heap[zb]? = _ := Hz6.out
            have hB7 : Below B w (w6.drewN nq) := ⟨hB6.os, hB6.tape, hB6.output, hB6.size, hB6.block⟩
            have hzlt7 : zb < (w6.drewN nq).heap.size := hzlt6
            clear q0 q1 q2 h6 hB6
            generalize w6.drewN nq = w7 at h7 hz7 hB7 hzlt7 ⊢
            have q0 : w7.cell? ⟨zb, 0, none⟩ = some (.int .i64 z0) := cell_of_row w7 zb 0 _ _ _ hz7
            have f0 : w7.frozen? ⟨zb, 0, none⟩ = false := frozen_of_row w7 zb 0 _ _ hz7
            have hz8 := heap_setCell_same w7 zb 0 _ _ (.int .i64 (n : Int)) hz7
            have h8 : SW B (w7.setCell ⟨zb, 0, none⟩ (.int .i64 (n : Int))) F6 sb room [] (oput nA xs c) := h7.keeps ((Keeps.refl (fun j => j = zb) w7).setCell (p := ⟨zb, 0, none⟩) (fun _ => rfl) _) (fun j h1 h2 => hnF6 (h2 ▸ h1)) (fun j hj => by have : j = zb := hj; omega)
            have hB8 : Below B w (w7.setCell ⟨zb, 0, none⟩ (.int .i64 (n : Int))) := hB7.setCell (p := ⟨zb, 0, none⟩) hBz _
            have hzlt8 : zb < (w7.setCell ⟨zb, 0, none⟩ (.int .i64 (n : Int))).heap.size := by rw [World.size_setCell]; exact hzlt7
            have Hz8 := Lib.hid hz8
            have H8 := Lib.hid (And.intro h8 (And.intro hB8 hzlt8))
            have Hz7 := Lib.hid hz7
            clear hz7 hz8 h8 hB8 hzlt8 h7 hB7
            have bnn : ((n : Int) != n) = false := by rw [bne_eq_false_iff_eq]
            go_wp2_with (go_at_call 11; refine (num_any _ _).mono ?_; rintro e w' ⟨rfl, rfl⟩)
            obtain ⟨h8, hB8, hzlt8⟩ := H8.out
            generalize w7.setCell ⟨zb, 0, none⟩ (.int .i64 (n : Int)) = w8 at Hz8 h8 hB8 hzlt8 ⊢
            have hnF8 := hnF6
            generalize F6 = F8 at h8 hnF8

            go_wp2_with fail
            refine (sGet B sb nA w8 F8 _ _ _ h8 (by decide)).mono ?_
            rintro e w9 ⟨A9, c9, rfl, -, h9, hk9⟩
            rw [show how ([] : List Int) = 0 from rfl, HG.out.1, HG.out.2]
            have hz9' : w9.heap[zb]? = _ := (hk9.block zb hzlt8 hnF8).trans Hz8.out
            have hB9 := hB8.trans (h8.belowB hk9)
            have p0 : w9.cell? ⟨zb, 0, none⟩ = some (.int .i64 n) := cell_of_row w9 zb 0 _ _ _ hz9'
            have Hz9 := Lib.hid hz9'
            clear hz9' hk9 h8
            go_wp2
            go_roundw
            case rel => exact ⟨k + 1, n, z1, z2, F8, _, by go_num, by omega, h9, hnF8, Hz9.out, hS6, by omega, by omega, hB9⟩
            case measure => simp [intOf]; omega
          · have he : putErr nA xs room c = 7 := by rw [HK6.out 0, if_pos (by omega)]
            have hc : putC nA xs room c = c := by unfold putC; rw [he]; rfl
            rw [hc] at h6
            rw [he]
            clear he hc
            have q0 : w6.cell? ⟨zb, 0, none⟩ = some (.int .i64 z0) := cell_of_row w6 zb 0 _ _ _ hz6
            have q1 : w6.cell? ⟨zb, 1, none⟩ = some (.int .i64 z1) := cell_of_row w6 zb 1 _ _ _ hz6
            have q2 : w6.cell? ⟨zb, 2, none⟩ = some (.int .i64 z2) := cell_of_row w6 zb 2 _ _ _ hz6
            have Hz6 := Lib.hid hz6
            clear hz6
            go_wp2
            refine hN _ _ ⟨⟨w6, fun k hk hn => absurd trivial hn⟩, rfl⟩ ?_
            clear hN N
            refine wpE_cons (fun N hN => ?_)
            go_wp2
            refine hN _ _ ⟨⟨w6, fun k hk hn => absurd trivial hn⟩, rfl⟩ ?_
            refine wpE_nil ?_
            clear hN N
            go_wp2
            go_quiet (fail)
            have h8 : SW B (w6.drewN nq) F6 sb room [] c := h6.below ⟨rfl, rfl, rfl, Nat.le_refl _, fun _ _ => rfl⟩
            have Hz8 : Hid ((w6.drewN nq).heap[zb]? = _) := Hz6
            have hB8 : Below B w (w6.drewN nq) := ⟨hB6.os, hB6.tape, hB6.output, hB6.size, hB6.block⟩
            have hzlt8 : zb < (w6.drewN nq).heap.size := hzlt6
            clear q0 q1 q2 h6 hB6
            generalize w6.drewN nq = w8 at h8 Hz8 hB8 hzlt8 ⊢
            have hnF8 := hnF6
            generalize F6 = F8 at h8 hnF8
            have H8 := Lib.hid (And.intro h8 (And.intro hB8 hzlt8))
            clear h8 hB8 hzlt8
            have bnn : ((z0 : Int) != z0) = false := by rw [bne_eq_false_iff_eq]
            cases hl : look nA c with
            | none =>
              have hz0 : z0 = 0 := by rw [← hS.out.a]; unfold szOf; rw [hl]
              have hz0' : ¬ (0 < z0) := by omega
              have hgE : getE 0 nA c = 8 := by
                unfold getE found
                rw [show validName nA = true from valid_a, if_neg (by decide), hl]
                rfl
              have HG := Lib.hid hgE
              clear hgE hl hz0
              go_wp2_with (go_at_call 11; refine (num_any _ _).mono ?_; rintro e w' ⟨rfl, rfl⟩)
              obtain ⟨h8, hB8, hzlt8⟩ := H8.out
              obtain ⟨n9, hn9⟩ : ∃ n9, (getB 0 nA c).length = n9 := ⟨_, rfl⟩

              go_wp2_with fail
              refine (sGet B sb nA w8 F8 _ _ _ h8 (by decide)).mono ?_
              rintro e w9 ⟨A9, c9, rfl, -, h9, hk9⟩
              rw [show how ([] : List Int) = 0 from rfl, HG.out, hn9]
              have hz9' : w9.heap[zb]? = _ := (hk9.block zb hzlt8 hnF8).trans Hz8.out
              have hB9 := hB8.trans (h8.belowB hk9)
              have p0 : w9.cell? ⟨zb, 0, none⟩ = some (.int .i64 z0) := cell_of_row w9 zb 0 _ _ _ hz9'
              have Hz9 := Lib.hid hz9'
              clear hz9' hk9 h8
              go_wp2
              go_roundw
              case rel => exact ⟨k + 1, z0, z1, z2, F8, c, by go_num, by omega, h9, hnF8, Hz9.out, hS, hz5, hzr, hB9⟩
              case measure => simp [intOf]; omega
            | some b =>
              have hzb' : b.length = z0 := by rw [← hS.out.a]; unfold szOf; rw [hl]
              have hgE : getE 0 nA c = 0 := by
                unfold getE found
                rw [show validName nA = true from valid_a, if_neg (by decide), hl]
                rfl
              have hgB : (getB 0 nA c).length = z0 := by
                unfold getB found
                rw [hgE, show validName nA = true from valid_a, if_pos rfl, if_neg (by decide), hl]
                exact hzb'
              have HG := Lib.hid (And.intro hgE hgB)
              clear hgE hgB hl hzb'
              go_wp2_with (go_at_call 11; refine (num_any _ _).mono ?_; rintro e w' ⟨rfl, rfl⟩)
              obtain ⟨h8, hB8, hzlt8⟩ := H8.out

              go_wp2_with fail
              refine (sGet B sb nA w8 F8 _ _ _ h8 (by decide)).mono ?_
              rintro e w9 ⟨A9, c9, rfl, -, h9, hk9⟩
              rw [show how ([] : List Int) = 0 from rfl, HG.out.1, HG.out.2]
              have hz9' : w9.heap[zb]? = _ := (hk9.block zb hzlt8 hnF8).trans Hz8.out
              have hB9 := hB8.trans (h8.belowB hk9)
              have p0 : w9.cell? ⟨zb, 0, none⟩ = some (.int .i64 z0) := cell_of_row w9 zb 0 _ _ _ hz9'
              have Hz9 := Lib.hid hz9'
              clear hz9' hk9 h8
              go_wp2
              go_roundw
              case rel => exact ⟨k + 1, z0, z1, z2, F8, c, by go_num, by omega, h9, hnF8, Hz9.out, hS, hz5, hzr, hB9⟩
              case measure => simp [intOf]; omega
        · have hsl : ∀ W : World, (Instr.slice 9 (.string ⟨#[97, 98, 99]⟩) (some (.int .i64 1)) (some (.int .i64 2)) none).run Tryd.prog W = .ok (.string nB) W := fun W => by kernel_rfl
          obtain ⟨W5, hmk, hO, hb5⟩ := run_make_S (P := Tryd.prog) (K := kInt .u8) (x := 0) tBytes rfl (z := .int .u8 0) (by kernel_rfl) rfl (fun _ _ => rfl) wr.drew n (by omega) (by omega)
          obtain ⟨A5, c5, hv5, -, -, hr5⟩ := hO.reads
          rw [List.length_replicate] at hv5 hr5
          injection hv5 with hA5 _ hc5
          subst hA5 hc5
          have hW5 : SW B W5 F sb room [] c := hW.below (below_undrew hb5)
          have hap : Apart (New wr.drew W5) F := fun k h1 h2 => by have := hW.fin k h2; have := h1.1; rw [World.size_drew] at this; omega
          have hz5' : W5.heap[zb]? = _ := (hb5.block zb hzlt).trans Hz.out
          have hB5 : Below B w W5 := hB.trans ((below_undrew hb5).mono hW.env.le)
          have Hz5 := Lib.hid hz5'
          have hzlt5 : zb < W5.heap.size := by have := hb5.size; rw [World.size_drew] at this; omega
          clear hO hb5 hz5'
          obtain ⟨xs, hxs⟩ : ∃ xs : List Int, Hid (List.replicate n 0 = xs) := ⟨_, rfl⟩
          have hxl : Hid (xs.length = n) := by show xs.length = n; rw [← hxs.out, List.length_replicate]
          rw [hxs.out] at hr5
          go_wp2
          refine wp_region_plan [0, 0, 0, 0, 0, 0, 1, 1, 1] (fun w' => ∃ D : Same (fun k => True) wr, w' = D.world) (by kernel_rfl) (by kernel_rfl) InSame.start ?_
          simp only [sel, selE, Nat.reduceEqDiff, reduceIte]
          repeat (go_big_quiet_step (fail))
          refine wpQuiet_nil ?_
          refine wpE_cons (fun N hN => ?_)
          go_wp2
          refine hN _ _ ⟨⟨W5, fun k hk hn => absurd trivial hn⟩, rfl⟩ ?_
          clear hN N
          refine wpE_cons (fun N hN => ?_)
          go_wp2_with fail
          refine (sPut B sb nB _ n n xs W5 F _ _ _ _ hW5 (by decide) hr5 hap (by omega) (by have := hS.out.t; omega)).mono ?_
          rintro e w6 ⟨rfl, h6, hk6⟩
          rw [show how ([] : List Int) = 0 from rfl, doC_0] at h6
          rw [show how ([] : List Int) = 0 from rfl, toldE_0]
          have hz6 : w6.heap[zb]? = _ := (hk6.block zb hzlt5 hnF).trans Hz5.out
          have hB6 := hB5.trans (hW5.belowB hk6)
          have hnF6 : ¬ Grow F W5 w6 zb := fun hk => by
            rcases hk with hk | hk
            · exact hnF hk
            · have := hk.1; omega
          have hzlt6 : zb < w6.heap.size := by have := hk6.size; omega
          generalize Grow F W5 w6 = F6 at h6 hnF6
          have HK6 : Hid (∀ e : Int, (putErr nB xs room c = if (n : Int) - z1 > room - (z0 + z1 + z2) then 7 else 0)) := fun _ => by
            unfold putErr
            rw [show validName nB = true from valid_b, if_neg (by decide), hxl.out, hS.out.b, hS.out.t]
            rfl
          clear hk6 hW5 hW hB hB5 hr5 hap hmk
          by_cases hok : (z0 : Int) + z1 + z2 - z1 + n ≤ room
          · have he : putErr nB xs room c = 0 := by rw [HK6.out 0, if_neg (by omega)]
            have hc : putC nB xs room c = oput nB xs c := by unfold putC; rw [he]; rfl
            have hS6 : Hid (Sizes (oput nB xs c) z0 n z2) := by
              have := hS.out.put1 xs
              rwa [hxl.out] at this
            have hgE : getE 0 nB (oput nB xs c) = 0 := by
              unfold getE found
              rw [show validName nB = true from valid_b, if_neg (by decide), look_oput_same]
              rfl
            have hgB : (getB 0 nB (oput nB xs c)).length = n := by
              unfold getB found
              rw [hgE, show validName nB = true from valid_b, if_pos rfl, if_neg (by decide), look_oput_same]
              exact hxl.out
            rw [hc] at h6
            rw [he]
            have HG := Lib.hid (And.intro hgE hgB)
            clear he hc hgE hgB
            have q0 : w6.cell? ⟨zb, 0, none⟩ = some (.int .i64 z0) := cell_of_row w6 zb 0 _ _ _ hz6
            have q1 : w6.cell? ⟨zb, 1, none⟩ = some (.int .i64 z1) := cell_of_row w6 zb 1 _ _ _ hz6
            have q2 : w6.cell? ⟨zb, 2, none⟩ = some (.int .i64 z2) := cell_of_row w6 zb 2 _ _ _ hz6
            have Hz6 := Lib.hid hz6
            clear hz6
            go_wp2
            refine hN _ _ ⟨⟨w6, fun k hk hn => absurd trivial hn⟩, rfl⟩ ?_
            clear hN N
            refine wpE_cons (fun N hN => ?_)
            go_wp2
            refine hN _ _ ⟨⟨w6, fun k hk hn => absurd trivial hn⟩, rfl⟩ ?_
            refine wpE_nil ?_
            clear hN N
            go_wp2
            go_quiet (fail)
            have h7 : SW B (w6.drewN nq) F6 sb room [] (oput nB xs c) := h6.below ⟨rfl, rfl, rfl, Nat.le_refl _, fun _ _ => rfl⟩
            have hz7 : (w6.drewN nq).heap[zb]? = _ := Hz6.out
            have hB7 : Below B w (w6.drewN nq) := ⟨hB6.os, hB6.tape, hB6.output, hB6.size, hB6.block⟩
            have hzlt7 : zb < (w6.drewN nq).heap.size := hzlt6
            clear q0 q1 q2 h6 hB6
            generalize w6.drewN nq = w7 at h7 hz7 hB7 hzlt7 ⊢
            have q1 : w7.cell? ⟨zb, 1, none⟩ = some (.int .i64 z1) := cell_of_row w7 zb 1 _ _ _ hz7
            have f1 : w7.frozen? ⟨zb, 1, none⟩ = false := frozen_of_row w7 zb 1 _ _ hz7
            have hz8 := heap_setCell_same w7 zb 1 _ _ (.int .i64 (n : Int)) hz7
            have h8 : SW B (w7.setCell ⟨zb, 1, none⟩ (.int .i64 (n : Int))) F6 sb room [] (oput nB xs c) := h7.keeps ((Keeps.refl (fun j => j = zb) w7).setCell (p := ⟨zb, 1, none⟩) (fun _ => rfl) _) (fun j h1 h2 => hnF6 (h2 ▸ h1)) (fun j hj => by have : j = zb := hj; omega)
            have hB8 : Below B w (w7.setCell ⟨zb, 1, none⟩ (.int .i64 (n : Int))) := hB7.setCell (p := ⟨zb, 1, none⟩) hBz _
            have hzlt8 : zb < (w7.setCell ⟨zb, 1, none⟩ (.int .i64 (n : Int))).heap.size := by rw [World.size_setCell]; exact hzlt7
            have Hz8 := Lib.hid hz8
            have H8 := Lib.hid (And.intro h8 (And.intro hB8 hzlt8))
            have Hz7 := Lib.hid hz7
            clear hz7 hz8 h8 hB8 hzlt8 h7 hB7
            have bnn : ((n : Int) != n) = false := by rw [bne_eq_false_iff_eq]
            go_wp2_with (go_at_call 11; refine (num_any _ _).mono ?_; rintro e w' ⟨rfl, rfl⟩)
            obtain ⟨h8, hB8, hzlt8⟩ := H8.out
            generalize w7.setCell ⟨zb, 1, none⟩ (.int .i64 (n : Int)) = w8 at Hz8 h8 hB8 hzlt8 ⊢
            have hnF8 := hnF6
            generalize F6 = F8 at h8 hnF8

            go_wp2_with fail
            refine (sGet B sb nB w8 F8 _ _ _ h8 (by decide)).mono ?_
            rintro e w9 ⟨A9, c9, rfl, -, h9, hk9⟩
            rw [show how ([] : List Int) = 0 from rfl, HG.out.1, HG.out.2]
            have hz9' : w9.heap[zb]? = _ := (hk9.block zb hzlt8 hnF8).trans Hz8.out
            have hB9 := hB8.trans (h8.belowB hk9)
            have p1 : w9.cell? ⟨zb, 1, none⟩ = some (.int .i64 n) := cell_of_row w9 zb 1 _ _ _ hz9'
            have Hz9 := Lib.hid hz9'
            clear hz9' hk9 h8
            go_wp2
            go_roundw
            case rel => exact ⟨k + 1, z0, n, z2, F8, _, by go_num, by omega, h9, hnF8, Hz9.out, hS6, by omega, by omega, hB9⟩
            case measure => simp [intOf]; omega
          · have he : putErr nB xs room c = 7 := by rw [HK6.out 0, if_pos (by omega)]
            have hc : putC nB xs room c = c := by unfold putC; rw [he]; rfl
            rw [hc] at h6
            rw [he]
            clear he hc
            have q0 : w6.cell? ⟨zb, 0, none⟩ = some (.int .i64 z0) := cell_of_row w6 zb 0 _ _ _ hz6
            have q1 : w6.cell? ⟨zb, 1, none⟩ = some (.int .i64 z1) := cell_of_row w6 zb 1 _ _ _ hz6
            have q2 : w6.cell? ⟨zb, 2, none⟩ = some (.int .i64 z2) := cell_of_row w6 zb 2 _ _ _ hz6
            have Hz6 := Lib.hid hz6
            clear hz6
            go_wp2
            refine hN _ _ ⟨⟨w6, fun k hk hn => absurd trivial hn⟩, rfl⟩ ?_
            clear hN N
            refine wpE_cons (fun N hN => ?_)
            go_wp2
            refine hN _ _ ⟨⟨w6, fun k hk hn => absurd trivial hn⟩, rfl⟩ ?_
            refine wpE_nil ?_
            clear hN N
            go_wp2
            go_quiet (fail)
            have h8 : SW B (w6.drewN nq) F6 sb room [] c := h6.below ⟨rfl, rfl, rfl, Nat.le_refl _, fun _ _ => rfl⟩
            have Hz8 : Hid ((w6.drewN nq).heap[zb]? = _) := Hz6
            have hB8 : Below B w (w6.drewN nq) := ⟨hB6.os, hB6.tape, hB6.output, hB6.size, hB6.block⟩
            have hzlt8 : zb < (w6.drewN nq).heap.size := hzlt6
            clear q0 q1 q2 h6 hB6
            generalize w6.drewN nq = w8 at h8 Hz8 hB8 hzlt8 ⊢
            have hnF8 := hnF6
            generalize F6 = F8 at h8 hnF8
            have H8 := Lib.hid (And.intro h8 (And.intro hB8 hzlt8))
            clear h8 hB8 hzlt8
            have bnn : ((z1 : Int) != z1) = false := by rw [bne_eq_false_iff_eq]
            cases hl : look nB c with
            | none =>
              have hz0 : z1 = 0 := by rw [← hS.out.b]; unfold szOf; rw [hl]
              have hz0' : ¬ (0 < z1) := by omega
              have hgE : getE 0 nB c = 8 := by
                unfold getE found
                rw [show validName nB = true from valid_b, if_neg (by decide), hl]
                rfl
              have HG := Lib.hid hgE
              clear hgE hl hz0
              go_wp2_with (go_at_call 11; refine (num_any _ _).mono ?_; rintro e w' ⟨rfl, rfl⟩)
              obtain ⟨h8, hB8, hzlt8⟩ := H8.out
              obtain ⟨n9, hn9⟩ : ∃ n9, (getB 0 nB c).length = n9 := ⟨_, rfl⟩

              go_wp2_with fail
              refine (sGet B sb nB w8 F8 _ _ _ h8 (by decide)).mono ?_
              rintro e w9 ⟨A9, c9, rfl, -, h9, hk9⟩
              rw [show how ([] : List Int) = 0 from rfl, HG.out, hn9]
              have hz9' : w9.heap[zb]? = _ := (hk9.block zb hzlt8 hnF8).trans Hz8.out
              have hB9 := hB8.trans (h8.belowB hk9)
              have p1 : w9.cell? ⟨zb, 1, none⟩ = some (.int .i64 z1) := cell_of_row w9 zb 1 _ _ _ hz9'
              have Hz9 := Lib.hid hz9'
              clear hz9' hk9 h8
              go_wp2
              go_roundw
              case rel => exact ⟨k + 1, z0, z1, z2, F8, c, by go_num, by omega, h9, hnF8, Hz9.out, hS, hz5, hzr, hB9⟩
              case measure => simp [intOf]; omega
            | some b =>
              have hzb' : b.length = z1 := by rw [← hS.out.b]; unfold szOf; rw [hl]
              have hgE : getE 0 nB c = 0 := by
                unfold getE found
                rw [show validName nB = true from valid_b, if_neg (by decide), hl]
                rfl
              have hgB : (getB 0 nB c).length = z1 := by
                unfold getB found
                rw [hgE, show validName nB = true from valid_b, if_pos rfl, if_neg (by decide), hl]
                exact hzb'
              have HG := Lib.hid (And.intro hgE hgB)
              clear hgE hgB hl hzb'
              go_wp2_with (go_at_call 11; refine (num_any _ _).mono ?_; rintro e w' ⟨rfl, rfl⟩)
              obtain ⟨h8, hB8, hzlt8⟩ := H8.out

              go_wp2_with fail
              refine (sGet B sb nB w8 F8 _ _ _ h8 (by decide)).mono ?_
              rintro e w9 ⟨A9, c9, rfl, -, h9, hk9⟩
              rw [show how ([] : List Int) = 0 from rfl, HG.out.1, HG.out.2]
              have hz9' : w9.heap[zb]? = _ := (hk9.block zb hzlt8 hnF8).trans Hz8.out
              have hB9 := hB8.trans (h8.belowB hk9)
              have p1 : w9.cell? ⟨zb, 1, none⟩ = some (.int .i64 z1) := cell_of_row w9 zb 1 _ _ _ hz9'
              have Hz9 := Lib.hid hz9'
              clear hz9' hk9 h8
              go_wp2
              go_roundw
              case rel => exact ⟨k + 1, z0, z1, z2, F8, c, by go_num, by omega, h9, hnF8, Hz9.out, hS, hz5, hzr, hB9⟩
              case measure => simp [intOf]; omega
        · have hsl : ∀ W : World, (Instr.slice 9 (.string ⟨#[97, 98, 99]⟩) (some (.int .i64 2)) (some (.int .i64 3)) none).run Tryd.prog W = .ok (.string nC) W := fun W => by kernel_rfl
          obtain ⟨W5, hmk, hO, hb5⟩ := run_make_S (P := Tryd.prog) (K := kInt .u8) (x := 0) tBytes rfl (z := .int .u8 0) (by kernel_rfl) rfl (fun _ _ => rfl) wr.drew n (by omega) (by omega)
          obtain ⟨A5, c5, hv5, -, -, hr5⟩ := hO.reads
          rw [List.length_replicate] at hv5 hr5
          injection hv5 with hA5 _ hc5
          subst hA5 hc5
          have hW5 : SW B W5 F sb room [] c := hW.below (below_undrew hb5)
          have hap : Apart (New wr.drew W5) F := fun k h1 h2 => by have := hW.fin k h2; have := h1.1; rw [World.size_drew] at this; omega
          have hz5' : W5.heap[zb]? = _ := (hb5.block zb hzlt).trans Hz.out
          have hB5 : Below B w W5 := hB.trans ((below_undrew hb5).mono hW.env.le)
          have Hz5 := Lib.hid hz5'
          have hzlt5 : zb < W5.heap.size := by have := hb5.size; rw [World.size_drew] at this; omega
          clear hO hb5 hz5'
          obtain ⟨xs, hxs⟩ : ∃ xs : List Int, Hid (List.replicate n 0 = xs) := ⟨_, rfl⟩
          have hxl : Hid (xs.length = n) := by show xs.length = n; rw [← hxs.out, List.length_replicate]
          rw [hxs.out] at hr5
          go_wp2
          refine wp_region_plan [0, 0, 0, 0, 0, 0, 1, 1, 1] (fun w' => ∃ D : Same (fun k => True) wr, w' = D.world) (by kernel_rfl) (by kernel_rfl) InSame.start ?_
          simp only [sel, selE, Nat.reduceEqDiff, reduceIte]
          repeat (go_big_quiet_step (fail))
          refine wpQuiet_nil ?_
          refine wpE_cons (fun N hN => ?_)
          go_wp2
          refine hN _ _ ⟨⟨W5, fun k hk hn => absurd trivial hn⟩, rfl⟩ ?_
          clear hN N
          refine wpE_cons (fun N hN => ?_)
          go_wp2_with fail
          refine (sPut B sb nC _ n n xs W5 F _ _ _ _ hW5 (by decide) hr5 hap (by omega) (by have := hS.out.t; omega)).mono ?_
          rintro e w6 ⟨rfl, h6, hk6⟩
          rw [show how ([] : List Int) = 0 from rfl, doC_0] at h6
          rw [show how ([] : List Int) = 0 from rfl, toldE_0]
          have hz6 : w6.heap[zb]? = _ := (hk6.block zb hzlt5 hnF).trans Hz5.out
          have hB6 := hB5.trans (hW5.belowB hk6)
          have hnF6 : ¬ Grow F W5 w6 zb := fun hk => by
            rcases hk with hk | hk
            · exact hnF hk
            · have := hk.1; omega
          have hzlt6 : zb < w6.heap.size := by have := hk6.size; omega
          generalize Grow F W5 w6 = F6 at h6 hnF6
          have HK6 : Hid (∀ e : Int, (putErr nC xs room c = if (n : Int) - z2 > room - (z0 + z1 + z2) then 7 else 0)) := fun _ => by
            unfold putErr
            rw [show validName nC = true from valid_c, if_neg (by decide), hxl.out, hS.out.c', hS.out.t]
            rfl
          clear hk6 hW5 hW hB hB5 hr5 hap hmk
          by_cases hok : (z0 : Int) + z1 + z2 - z2 + n ≤ room
          · have he : putErr nC xs room c = 0 := by rw [HK6.out 0, if_neg (by omega)]
            have hc : putC nC xs room c = oput nC xs c := by unfold putC; rw [he]; rfl
            have hS6 : Hid (Sizes (oput nC xs c) z0 z1 n) := by
              have := hS.out.put2 xs
              rwa [hxl.out] at this
            have hgE : getE 0 nC (oput nC xs c) = 0 := by
              unfold getE found
              rw [show validName nC = true from valid_c, if_neg (by decide), look_oput_same]
              rfl
            have hgB : (getB 0 nC (oput nC xs c)).length = n := by
              unfold getB found
              rw [hgE, show validName nC = true from valid_c, if_pos rfl, if_neg (by decide), look_oput_same]
              exact hxl.out
            rw [hc] at h6
            rw [he]
            have HG := Lib.hid (And.intro hgE hgB)
            clear he hc hgE hgB
            have q0 : w6.cell? ⟨zb, 0, none⟩ = some (.int .i64 z0) := cell_of_row w6 zb 0 _ _ _ hz6
            have q1 : w6.cell? ⟨zb, 1, none⟩ = some (.int .i64 z1) := cell_of_row w6 zb 1 _ _ _ hz6
            have q2 : w6.cell? ⟨zb, 2, none⟩ = some (.int .i64 z2) := cell_of_row w6 zb 2 _ _ _ hz6
            have Hz6 := Lib.hid hz6
            clear hz6
            go_wp2
            refine hN _ _ ⟨⟨w6, fun k hk hn => absurd trivial hn⟩, rfl⟩ ?_
            clear hN N
            refine wpE_cons (fun N hN => ?_)
            go_wp2
            refine hN _ _ ⟨⟨w6, fun k hk hn => absurd trivial hn⟩, rfl⟩ ?_
            refine wpE_nil ?_
            clear hN N
            go_wp2
            go_quiet (fail)
            have h7 : SW B (w6.drewN nq) F6 sb room [] (oput nC xs c) := h6.below ⟨rfl, rfl, rfl, Nat.le_refl _, fun _ _ => rfl⟩
            have hz7 : (w6.drewN nq).heap[zb]? = _ := Hz6.out
            have hB7 : Below B w (w6.drewN nq) := ⟨hB6.os, hB6.tape, hB6.output, hB6.size, hB6.block⟩
            have hzlt7 : zb < (w6.drewN nq).heap.size := hzlt6
            clear q0 q1 q2 h6 hB6
            generalize w6.drewN nq = w7 at h7 hz7 hB7 hzlt7 ⊢
            have q2 : w7.cell? ⟨zb, 2, none⟩ = some (.int .i64 z2) := cell_of_row w7 zb 2 _ _ _ hz7
            have f2 : w7.frozen? ⟨zb, 2, none⟩ = false := frozen_of_row w7 zb 2 _ _ hz7
            have hz8 := heap_setCell_same w7 zb 2 _ _ (.int .i64 (n : Int)) hz7
            have h8 : SW B (w7.setCell ⟨zb, 2, none⟩ (.int .i64 (n : Int))) F6 sb room [] (oput nC xs c) := h7.keeps ((Keeps.refl (fun j => j = zb) w7).setCell (p := ⟨zb, 2, none⟩) (fun _ => rfl) _) (fun j h1 h2 => hnF6 (h2 ▸ h1)) (fun j hj => by have : j = zb := hj; omega)
            have hB8 : Below B w (w7.setCell ⟨zb, 2, none⟩ (.int .i64 (n : Int))) := hB7.setCell (p := ⟨zb, 2, none⟩) hBz _
            have hzlt8 : zb < (w7.setCell ⟨zb, 2, none⟩ (.int .i64 (n : Int))).heap.size := by rw [World.size_setCell]; exact hzlt7
            have Hz8 := Lib.hid hz8
            have H8 := Lib.hid (And.intro h8 (And.intro hB8 hzlt8))
            have Hz7 := Lib.hid hz7
            clear hz7 hz8 h8 hB8 hzlt8 h7 hB7
            have bnn : ((n : Int) != n) = false := by rw [bne_eq_false_iff_eq]
            go_wp2_with (go_at_call 11; refine (num_any _ _).mono ?_; rintro e w' ⟨rfl, rfl⟩)
            obtain ⟨h8, hB8, hzlt8⟩ := H8.out
            generalize w7.setCell ⟨zb, 2, none⟩ (.int .i64 (n : Int)) = w8 at Hz8 h8 hB8 hzlt8 ⊢
            have hnF8 := hnF6
            generalize F6 = F8 at h8 hnF8

            go_wp2_with fail
            refine (sGet B sb nC w8 F8 _ _ _ h8 (by decide)).mono ?_
            rintro e w9 ⟨A9, c9, rfl, -, h9, hk9⟩
            rw [show how ([] : List Int) = 0 from rfl, HG.out.1, HG.out.2]
            have hz9' : w9.heap[zb]? = _ := (hk9.block zb hzlt8 hnF8).trans Hz8.out
            have hB9 := hB8.trans (h8.belowB hk9)
            have p2 : w9.cell? ⟨zb, 2, none⟩ = some (.int .i64 n) := cell_of_row w9 zb 2 _ _ _ hz9'
            have Hz9 := Lib.hid hz9'
            clear hz9' hk9 h8
            go_wp2
            go_roundw
            case rel => exact ⟨k + 1, z0, z1, n, F8, _, by go_num, by omega, h9, hnF8, Hz9.out, hS6, by omega, by omega, hB9⟩
            case measure => simp [intOf]; omega
          · have he : putErr nC xs room c = 7 := by rw [HK6.out 0, if_pos (by omega)]
            have hc : putC nC xs room c = c := by unfold putC; rw [he]; rfl
            rw [hc] at h6
            rw [he]
            clear he hc
            have q0 : w6.cell? ⟨zb, 0, none⟩ = some (.int .i64 z0) := cell_of_row w6 zb 0 _ _ _ hz6
            have q1 : w6.cell? ⟨zb, 1, none⟩ = some (.int .i64 z1) := cell_of_row w6 zb 1 _ _ _ hz6
            have q2 : w6.cell? ⟨zb, 2, none⟩ = some (.int .i64 z2) := cell_of_row w6 zb 2 _ _ _ hz6
            have Hz6 := Lib.hid hz6
            clear hz6
            go_wp2
            refine hN _ _ ⟨⟨w6, fun k hk hn => absurd trivial hn⟩, rfl⟩ ?_
            clear hN N
            refine wpE_cons (fun N hN => ?_)
            go_wp2
            refine hN _ _ ⟨⟨w6, fun k hk hn => absurd trivial hn⟩, rfl⟩ ?_
            refine wpE_nil ?_
            clear hN N
            go_wp2
            go_quiet (fail)
            have h8 : SW B (w6.drewN nq) F6 sb room [] c := h6.below ⟨rfl, rfl, rfl, Nat.le_refl _, fun _ _ => rfl⟩
            have Hz8 : Hid ((w6.drewN nq).heap[zb]? = _) := Hz6
            have hB8 : Below B w (w6.drewN nq) := ⟨hB6.os, hB6.tape, hB6.output, hB6.size, hB6.block⟩
            have hzlt8 : zb < (w6.drewN nq).heap.size := hzlt6
            clear q0 q1 q2 h6 hB6
            generalize w6.drewN nq = w8 at h8 Hz8 hB8 hzlt8 ⊢
            have hnF8 := hnF6
            generalize F6 = F8 at h8 hnF8
            have H8 := Lib.hid (And.intro h8 (And.intro hB8 hzlt8))
            clear h8 hB8 hzlt8
            have bnn : ((z2 : Int) != z2) = false := by rw [bne_eq_false_iff_eq]
            cases hl : look nC c with
            | none =>
              have hz0 : z2 = 0 := by rw [← hS.out.c']; unfold szOf; rw [hl]
              have hz0' : ¬ (0 < z2) := by omega
              have hgE : getE 0 nC c = 8 := by
                unfold getE found
                rw [show validName nC = true from valid_c, if_neg (by decide), hl]
                rfl
              have HG := Lib.hid hgE
              clear hgE hl hz0
              go_wp2_with (go_at_call 11; refine (num_any _ _).mono ?_; rintro e w' ⟨rfl, rfl⟩)
              obtain ⟨h8, hB8, hzlt8⟩ := H8.out
              obtain ⟨n9, hn9⟩ : ∃ n9, (getB 0 nC c).length = n9 := ⟨_, rfl⟩

              go_wp2_with fail
              refine (sGet B sb nC w8 F8 _ _ _ h8 (by decide)).mono ?_
              rintro e w9 ⟨A9, c9, rfl, -, h9, hk9⟩
              rw [show how ([] : List Int) = 0 from rfl, HG.out, hn9]
              have hz9' : w9.heap[zb]? = _ := (hk9.block zb hzlt8 hnF8).trans Hz8.out
              have hB9 := hB8.trans (h8.belowB hk9)
              have p2 : w9.cell? ⟨zb, 2, none⟩ = some (.int .i64 z2) := cell_of_row w9 zb 2 _ _ _ hz9'
              have Hz9 := Lib.hid hz9'
              clear hz9' hk9 h8
              go_wp2
              go_roundw
              case rel => exact ⟨k + 1, z0, z1, z2, F8, c, by go_num, by omega, h9, hnF8, Hz9.out, hS, hz5, hzr, hB9⟩
              case measure => simp [intOf]; omega
            | some b =>
              have hzb' : b.length = z2 := by rw [← hS.out.c']; unfold szOf; rw [hl]
              have hgE : getE 0 nC c = 0 := by
                unfold getE found
                rw [show validName nC = true from valid_c, if_neg (by decide), hl]
                rfl
              have hgB : (getB 0 nC c).length = z2 := by
                unfold getB found
                rw [hgE, show validName nC = true from valid_c, if_pos rfl, if_neg (by decide), hl]
                exact hzb'
              have HG := Lib.hid (And.intro hgE hgB)
              clear hgE hgB hl hzb'
              go_wp2_with (go_at_call 11; refine (num_any _ _).mono ?_; rintro e w' ⟨rfl, rfl⟩)
              obtain ⟨h8, hB8, hzlt8⟩ := H8.out

              go_wp2_with fail
              refine (sGet B sb nC w8 F8 _ _ _ h8 (by decide)).mono ?_
              rintro e w9 ⟨A9, c9, rfl, -, h9, hk9⟩
              rw [show how ([] : List Int) = 0 from rfl, HG.out.1, HG.out.2]
              have hz9' : w9.heap[zb]? = _ := (hk9.block zb hzlt8 hnF8).trans Hz8.out
              have hB9 := hB8.trans (h8.belowB hk9)
              have p2 : w9.cell? ⟨zb, 2, none⟩ = some (.int .i64 z2) := cell_of_row w9 zb 2 _ _ _ hz9'
              have Hz9 := Lib.hid hz9'
              clear hz9' hk9 h8
              go_wp2
              go_roundw
              case rel => exact ⟨k + 1, z0, z1, z2, F8, c, by go_num, by omega, h9, hnF8, Hz9.out, hS, hz5, hzr, hB9⟩
              case measure => simp [intOf]; omega
      · obtain rfl : k = l.length := by omega
        go_wp2
        go_ret
        exact ⟨rfl, hB⟩
end Go.Proofs.YtngmipppgnlkdaaDoor
