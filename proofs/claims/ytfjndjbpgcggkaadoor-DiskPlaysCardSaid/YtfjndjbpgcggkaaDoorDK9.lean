/- disk.Crash, walked. -/
import Derived.Test.YtfjndjbpgcggkaaDoorDK8
set_option linter.unusedVariables false
set_option linter.unusedSimpArgs false
namespace Go.Proofs.YtfjndjbpgcggkaaDoor
open Go.RowKit
attribute [local go_sem] Same.cell

theorem tInts : ElemT Tryd.prog 35 3 1 8 := ElemT.mk' (z := .int .i64 0) Tryd.underlying35 (by kernel_rfl) rfl

/-- How much of what is loose a crash keeps. -/
def crashK (ks : List Int) (l : Nat) : Nat := match ks with | [] => 0 | k :: _ => clampN k l
theorem crashK_le (ks : List Int) (l : Nat) : crashK ks l ≤ l := by
  cases ks with
  | nil => exact Nat.zero_le _
  | cons k t => exact clampN_le k l
def crashGo : List ByteArray → FObjs → List Int → FObjs
  | [], c, _ => c
  | s :: ss, c, ks => match look s c with
    | none => crashGo ss c ks
    | some f => if f.2 = 0 then crashGo ss c ks else crashGo ss (oput s (f.1.take (f.1.length - f.2 + crashK ks f.2), 0) c) ks.tail
theorem crashGo_cons (s : ByteArray) (ss : List ByteArray) (c : FObjs) (ks : List Int) : crashGo (s :: ss) c ks = (match look s c with
    | none => crashGo ss c ks
    | some f => if f.2 = 0 then crashGo ss c ks else crashGo ss (oput s (f.1.take (f.1.length - f.2 + crashK ks f.2), 0) c) ks.tail) := rfl
def crash (ks : List Int) (c : FObjs) : FObjs := crashGo (dkeys c) c ks

/-- Less in a file: the disk stays in order. -/
theorem DOk.cut {room : Int} {c : FObjs} {s : ByteArray} {f : List Int × Nat} (ok : DOk room c) (hl : look s c = some f) (k l : Nat) : DOk room (oput s (f.1.take k, l) c) := by
  refine ⟨ok.r0, ok.r1, ?_⟩
  have hsum := osum_put (f := flen) s (f.1.take k, l) c
  have hsz : szAt flen s c = f.1.length := by unfold szAt; rw [hl]; rfl
  have hfl : flen (f.1.take k, l) ≤ f.1.length := by show (f.1.take k).length ≤ _; rw [List.length_take]; omega
  have := ok.t1
  omega

/-- What a round of Crash finds. -/
structure CrashAt (w w1 wr : World) (F G : Foot) (db : Nat) (room : Int) (names : List ByteArray) (c : FObjs) (ks : List Int) (i : Nat) (ci : FObjs) (ki : List Int) (A : Option Addr) (n cp : Nat) : Prop where
  le : w.heap.size ≤ w1.heap.size
  keep : RS (kInt .i64) wr (fun k => (G k ∧ k < w.heap.size) ∧ ¬ F k) A n ki
  nc : n ≤ cp
  cp : cp ≤ 9223372036854775807
  at_ : DiskAt wr (fun k => (F k ∧ k < w.heap.size) ∨ (w1.heap.size ≤ k ∧ k < wr.heap.size)) db room ci
  kps : Keeps (fun k => F k ∧ k < w.heap.size) w1 wr
  ok : DOk room ci
  go : crashGo (names.drop i) ci ki = crashGo names c ks

/-- A file that stays as it is. -/
theorem CrashAt.pass {w w1 wr wr' : World} {F G : Foot} {db : Nat} {room : Int} {names : List ByteArray} {c ci : FObjs} {ks ki : List Int} {i n cp : Nat} {A : Option Addr} (h : CrashAt w w1 wr F G db room names c ks i ci ki A n cp) (hb : Below wr.heap.size wr wr')
    (hgo : crashGo (names.drop (i + 1)) ci ki = crashGo names c ks) : CrashAt w w1 wr' F G db room names c ks (i + 1) ci ki A n cp := by
  have := hb.size
  have h1 := h.kps.size
  exact ⟨h.le, h.keep.below hb, h.nc, h.cp, (h.at_.below hb).mono fun k hk => hk.imp id fun hk => ⟨hk.1, by omega⟩, h.kps.then_below hb, h.ok, hgo⟩

/-- A file that is cut. -/
theorem CrashAt.cut0 {w w1 wr : World} {F G : Foot} {db : Nat} {room : Int} {names : List ByteArray} {c ci : FObjs} {ks ki : List Int} {i n cp : Nat} {A : Option Addr} (h : CrashAt w w1 wr F G db room names c ks i ci ki A n cp) {w2 : World} (hal : Below wr.heap.size wr w2) {s : ByteArray} (f : List Int × Nat) (hl : look s ci = some f) {k : Nat} {q : Int} (hq : q = (f.1.length : Int) - f.2 + k) (hk : (k : Nat) ≤ f.2) (hle : f.2 ≤ f.1.length ∧ f.1.length ≤ 1000000000000) :
    Calls Tryd.prog 54 #[.pointer (some ⟨db, 0, none⟩), .string s, .int .i64 q] w2 fun e w3 => e = .returned (.tuple #[]) ∧
      ∀ {A' : Option Addr} {n' cp' : Nat} {ki' : List Int}, (∀ W FF, RS (kInt .i64) W FF A n ki → RS (kInt .i64) W FF A' n' ki') → n' ≤ cp' → cp' ≤ cp → crashGo (names.drop (i + 1)) (oput s (f.1.take (f.1.length - f.2 + k), 0) ci) ki' = crashGo names c ks →
        CrashAt w w1 w3 F G db room names c ks (i + 1) (oput s (f.1.take (f.1.length - f.2 + k), 0) ci) ki' A' n' cp' := by
  subst hq
  have hsz := h.kps.size
  have h2 := hal.size
  have hcl : clampN ((f.1.length : Int) - f.2 + k) f.1.length = f.1.length - f.2 + k := by unfold clampN; omega
  have hd := dcut_any db s ((f.1.length : Int) - f.2 + k) f w2 _ room ci (h.at_.below hal) h.ok hl (by omega) (by omega)
  rw [hcl] at hd
  refine hd.mono ?_
  rintro e w3 ⟨rfl, h3, hk3⟩
  have hs3 := hk3.size
  have hbk : Keeps (fun k => (F k ∧ k < w.heap.size) ∨ (w1.heap.size ≤ k ∧ k < wr.heap.size)) wr w3 := (Keeps.of_below hal _).trans hk3
  have hle2 := h.le
  refine ⟨rfl, fun hA hn hc hgo => ⟨h.le, ?_, hn, Nat.le_trans hc h.cp, h3.mono fun k hk => ?_, ?_, h.ok.cut hl _ _, hgo⟩⟩
  · exact hA _ _ (h.keep.keep fun k hk hl => hbk.block k hl fun hx => hx.elim (fun hx => hk.2 hx.1) fun hx => by have := hk.1.2; omega)
  · rcases hk with (hk | hk) | hk
    · exact .inl hk
    · exact .inr ⟨hk.1, by omega⟩
    · exact .inr ⟨by omega, hk.2⟩
  · refine ⟨hbk.os.trans h.kps.os, hbk.tape.trans h.kps.tape, hbk.output.trans h.kps.output, by omega, fun k hk hF => ?_⟩
    exact (hbk.block k (by omega) (fun hx => hx.elim hF fun hx => by omega)).trans (h.kps.block k hk hF)

set_option maxHeartbeats 4000000 in
set_option maxRecDepth 100000 in
theorem dCrash_any (db : Nat) (A : Option Addr) (n cp : Nat) (ks : List Int) (w : World) (F G : Foot) (room : Int) (c : FObjs) (h : DiskAt w F db room c) (ok : DOk room c) (hn : c.length ≤ 1000000000) (hG : Apart G F) (hr : RS (kInt .i64) w G A n ks) (hc : n ≤ cp) (hcm : cp ≤ 9223372036854775807) :
    Calls Tryd.prog 19 #[.pointer (some ⟨db, 0, none⟩), .slice A n cp] w (VPost w F db room (crash ks c)) := by
  have HL := Lib.hid (dList_any db w F room c h hn)
  have hdlt := h.lt
  have H := Lib.hid (And.intro h (And.intro ok hr))
  clear h ok hr
  go_enter Tryd.func19, Tryd.ntmps19
  go_wp2_with fail
  refine HL.out.mono ?_
  rintro e w1 ⟨v, rfl, hM⟩
  obtain ⟨An, cn, rfl, hnc, hnm, hrn⟩ := hM.own.reads
  have hb1 := hM.below
  clear hM
  obtain ⟨names, hnames⟩ : ∃ x, Hid (dkeys c = x) := ⟨_, rfl⟩
  have hcr : Hid (crash ks c = crashGo names c ks) := by show crash ks c = _; rw [← hnames.out]; rfl
  rw [hnames.out] at hnc hrn ⊢
  obtain ⟨N, hN⟩ : ∃ N, Hid (names.length = N) := ⟨_, rfl⟩
  rw [hN.out] at hnc hrn ⊢
  go_wp2
  go_loopw [1, 11] (fun v q wr => ∃ (i : Nat) (ci : FObjs) (ki : List Int) (Ai : Option Addr) (ni cpi : Nat), i ≤ N ∧ q = .int .i64 i ∧ v = .slice Ai ni cpi ∧ Hid (CrashAt w w1 wr F G db room names c ks i ci ki Ai ni cpi)) (fun _ q _ => N - (intOf q).toNat)
  case atStart =>
    refine ⟨0, c, ks, A, n, cp, Nat.zero_le _, rfl, rfl, ?_⟩
    obtain ⟨h, ok, hr⟩ := H.out
    exact ⟨hb1.size, (hr.bound.below hb1).mono fun k hk => ⟨hk, hG k hk.1⟩, hc, hcm, (h.bound.below hb1).mono fun k hk => .inl hk, Keeps.refl _ _, ok, rfl⟩
  case round =>
    obtain ⟨i, ci, ki, Ai, ni, cpi, hi, rfl, rfl, hC⟩ := hrel
    by_cases hlt : i < N
    · obtain ⟨s, hs⟩ : ∃ s, names[i]? = some s := ⟨_, List.getElem?_eq_getElem (by rw [hN.out]; exact hlt)⟩
      obtain ⟨ads, hAn, hFs, hcs⟩ := at_string (hrn.keep (W' := wr) fun k hk hl => hC.out.kps.block k hl (fun hF => by have := hk.1; have := hF.2; omega)) hs
      subst hAn
      obtain ⟨mb, clock, m, hI⟩ := hC.out.at_
      have c0 : wr.cell? ⟨db, 0, none⟩ = some (.map (some mb)) := cell_of_row wr db 0 _ _ _ hI.cells
      have hgo := hC.out.go
      have hdr : names.drop i = s :: names.drop (i + 1) := by
        obtain ⟨h1, h2⟩ := List.getElem?_eq_some_iff.1 hs
        rw [List.drop_eq_getElem_cons h1, h2]
      rw [hdr] at hgo
      have hdlr : db < wr.heap.size := hI.slt
      rcases look_map (mb := mb) (clock := clock) mDisk s hI.e with ⟨f, v, hl, ⟨A1, cp1, rfl, l1, l2, hrd⟩, hrun⟩ | ⟨hl, hrun⟩
      · have hr0 := (hrun wr hI.map).1
        have hlen := hI.len _ (look_mem s f ci hl)
        rw [crashGo_cons] at hgo
        rw [hl] at hgo
        dsimp only at hgo
        by_cases hf0 : f.2 = 0
        · rw [if_pos hf0] at hgo
          have HX := Lib.hid (And.intro hgo (And.intro hI hl))
          clear hgo hI hl hrun hrd hlen hdr hs
          rw [hf0] at hr0
          go_wp2
          go_roundw
          case rel =>
            obtain ⟨hgo, hI, hl⟩ := HX.out
            have hal : Below wr.heap.size wr (wr.alloc (.cells #[.slice A1 f.1.length cp1, .int .i64 0] 99)) := (Below.refl _ _).alloc (Nat.le_refl _) _
            exact ⟨i + 1, ci, ki, Ai, ni, cpi, by omega, by go_num, rfl, hC.out.pass hal hgo⟩
          case measure => simp [intOf]; omega
        · rw [if_neg hf0] at hgo
          have hfp : 0 < f.2 := Nat.pos_of_ne_zero hf0
          have eb : ((f.2 : Int) == 0) = false := by rw [beq_eq_false_iff_ne]; omega
          cases ki with
          | nil =>
            have hni : ni = 0 := hC.out.keep.length.symm
            subst hni
            have HX := Lib.hid (And.intro hgo (And.intro hI hl))
            clear hgo hI hl hrun hrd hdr hs
            go_wp2_with fail
            refine (hC.out.cut0 (w2 := wr.alloc (.cells #[.slice A1 f.1.length cp1, .int .i64 f.2] 99)) ((Below.refl _ _).alloc (Nat.le_refl _) _) f HX.out.2.2 (k := 0) (by simp only [wrap64]; omega) (by omega) (by omega)).mono ?_
            rintro e w3 ⟨rfl, hP⟩
            have HP : Hid (CrashAt w w1 w3 F G db room names c ks (i + 1) _ [] Ai 0 cpi) := hP (fun _ _ h => h) hC.out.nc (Nat.le_refl _) HX.out.1
            clear hP
            go_wp2
            go_roundw
            case rel => exact ⟨i + 1, _, [], Ai, 0, cpi, by omega, by go_num, rfl, HP⟩
            case measure => simp [intOf]; omega
          | cons k0 kt =>
            have hni : ni = (kt.length + 1 : Nat) := by have := hC.out.keep.length; simpa using this.symm
            have hnip : 0 < ni := by omega
            obtain ⟨adk, hAk, hFk, hck⟩ := at_int hC.out.keep (i := 0) (x := k0) rfl
            subst hAk
            obtain ⟨A', hsl, htl⟩ := cut_lo tInts .i64 (some adk) ni cpi 1 (by omega)
            have hkl := clampN_le k0 f.2
            have hkq := clampN_eq k0 f.2
            have hgo' : crashGo (names.drop (i + 1)) (oput s (f.1.take (f.1.length - f.2 + clampN k0 f.2), 0) ci) kt = crashGo names c ks := hgo
            generalize clampN k0 f.2 = kk at hkl hkq hgo'
            have htl1 := fun W FF => htl (kInt .i64) W FF (k0 :: kt) rfl hC.out.nc
            have hsl1 : ∀ W, (Instr.slice 35 (.slice (some adk) ni cpi) (some (.int .i64 1)) none none).run Tryd.prog W = .ok (.slice A' (ni - 1) (cpi - 1)) W := hsl
            have HX := Lib.hid (And.intro hgo' (And.intro hI (And.intro hl htl1)))
            have HNI := Lib.hid hni
            clear hgo hgo' hI hl hrun hrd hdr hs htl htl1 hsl hni
            go_wp2_with fail
            have hal : Below wr.heap.size wr (wr.alloc (.cells #[.slice A1 f.1.length cp1, .int .i64 f.2] 99)) := (Below.refl _ _).alloc (Nat.le_refl _) _
            have hfb : (wr.alloc (.cells #[.slice A1 f.1.length cp1, .int .i64 f.2] 99)).heap[wr.heap.size]? = some (.cells #[.slice A1 f.1.length cp1, .int .i64 f.2] 99 (0, 0)) := heap_alloc_new wr _
            have hcutd := fun q h1 => hC.out.cut0 hal.drew f HX.out.2.2.1 (k := kk) (q := q) h1 hkl ⟨hlen.2, hlen.1⟩
            have hakl : adk.block < wr.heap.size := World.block_lt_of_cell? wr _ hck
            have hck2 := (hal.cell (p := adk) hakl).trans hck
            generalize wr.alloc (.cells #[.slice A1 f.1.length cp1, .int .i64 f.2] 99) = w2 at hal hfb hcutd hck2 ⊢
            have hs2 := hal.size
            generalize wr.heap.size = r at hfb hakl hs2 ⊢
            have hrlt : r < w2.heap.size := (Array.getElem?_eq_some_iff.1 hfb).1
            have hak2 : adk.block < w2.heap.size := by omega
            have p0 : w2.cell? ⟨r, 0, none⟩ = some (.slice A1 f.1.length cp1) := cell_of_row w2 r 0 _ _ _ hfb
            have p1 : w2.cell? ⟨r, 1, none⟩ = some (.int .i64 f.2) := cell_of_row w2 r 1 _ _ _ hfb
            have hNF : ¬ NoF r := id
            have hNFa : ¬ NoF adk.block := id
            have hck3 : w2.cell? (adk.add 0) = some (.int .i64 k0) := hck2
            have HF := Lib.hid hfb
            have HD := Lib.hid hcutd
            clear hcutd hfb hal c0
            refine wp_region_plan [0, 0, 0, 0, 0, 0, 0, 0, 0, 0, 2] (fun w' => ∃ D : Same NoF w2, w' = D.world) (by kernel_rfl) (by kernel_rfl) InSame.start ?_
            simp only [sel, selE, Nat.reduceEqDiff, reduceIte]
            repeat (go_big_quiet_step (fail))
            refine wpQuiet_nil ?_
            refine wpE_nil ?_
            have q0 : w2.drew.cell? ⟨r, 0, none⟩ = some (.slice A1 f.1.length cp1) := p0
            have q1 : w2.drew.cell? ⟨r, 1, none⟩ = some (.int .i64 f.2) := p1
            go_wp2_with fail
            refine (HD.out _ rfl).mono ?_
            rintro e w3 ⟨rfl, hP⟩
            have hP2 := hP (A' := A') (n' := ni - 1) (cp' := cpi - 1) (ki' := kt) HX.out.2.2.2 (by have := hC.out.nc; omega) (by omega) HX.out.1
            have HP := Lib.hid hP2
            clear hP hP2
            go_wp2
            go_roundw
            case rel => exact ⟨i + 1, _, kt, A', ni - 1, cpi - 1, by omega, by go_num, rfl, HP⟩
            case measure => simp [intOf]; omega
      · have hr0 := (hrun wr hI.map).1
        rw [crashGo_cons] at hgo
        rw [hl] at hgo
        dsimp only at hgo
        have HX := Lib.hid (And.intro hgo (And.intro hI hl))
        clear hgo hI hl hrun hdr hs
        go_wp2
        go_roundw
        case rel =>
          obtain ⟨hgo, hI, hl⟩ := HX.out
          have hal : Below wr.heap.size wr (wr.alloc (.cells #[.slice none 0 0, .int .i64 0] 99)) := (Below.refl _ _).alloc (Nat.le_refl _) _
          exact ⟨i + 1, ci, ki, Ai, ni, cpi, by omega, by go_num, rfl, hC.out.pass hal hgo⟩
        case measure => simp [intOf]; omega
    · obtain rfl : i = N := by omega
      go_wp2
      go_end0
      have hq := hC.out.go
      rw [List.drop_of_length_le (by rw [hN.out]; exact Nat.le_refl _)] at hq
      have hq2 : ci = crash ks c := hq.trans hcr.out.symm
      have hs1 := hb1.size
      rw [← hq2]
      refine ⟨rfl, hC.out.at_.mono fun k hk => ?_, ?_⟩
      · rcases hk with hk | hk
        · exact .inl hk.1
        · exact .inr ⟨by omega, hk.2⟩
      · exact (Keeps.of_below hb1 F).trans (hC.out.kps.mono fun k _ hk => hk.1)
end Go.Proofs.YtfjndjbpgcggkaaDoor
