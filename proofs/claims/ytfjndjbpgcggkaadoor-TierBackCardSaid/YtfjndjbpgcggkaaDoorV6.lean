/- record.Put, the program's and the document's, of a record that is right. Printed by gen_v6.py (own work). -/
import Derived.Test.YtfjndjbpgcggkaaDoorV5
set_option linter.unusedVariables false
set_option linter.unusedSimpArgs false
namespace Go.Proofs.YtfjndjbpgcggkaaDoor
open Go.RowKit
attribute [local go_sem] Same.cell Same.frozen

/-- A record's bytes. -/
def recPut (r : Record) : List Int := vput r.Offset.toNat ++ vput (vfold r.Time) ++ [if r.Dead then 1 else 0] ++ vput r.Key.size ++ numsOf r.Key ++ vput r.Value.size ++ numsOf r.Value
theorem Okay.fold (t : Int) (h : -1099511627776 ≤ t ∧ t ≤ 1099511627776) : vfold t < 18446744073709551616 := by
  unfold vfold
  split <;> omega
/-- An owned row that is new since w. -/
structure Row (w wr : World) (v : Value) (bs : List Int) (n : Nat) : Prop where
  own : OwnS (kInt .u8) 5 wr (New w wr) v bs
  below : Below w.heap.size w wr
  len : bs.length ≤ n
theorem Row.lt {w wr : World} {v : Value} {bs : List Int} {n : Nat} (h : Row w wr v bs n) : ∀ k, v.ownBlock = some k → w.heap.size ≤ k ∧ k < wr.heap.size := fun k hk => (h.own.lt k hk).1
theorem Row.moved {w wr w' : World} {v : Value} {bs : List Int} {n : Nat} (h : Row w wr v bs n) (hb : Below wr.heap.size wr w') : Row w w' v bs n :=
  ⟨(h.own.below hb).mono fun k hk => ⟨hk.1, Nat.lt_of_lt_of_le hk.2 hb.size⟩, h.below.trans (hb.mono h.below.size), h.len⟩
theorem Row.app {w wr wl w' : World} {F G : Foot} {v v' : Value} {bs xs : List Int} {n m : Nat} (h : Row w wr v bs n) (hl : Below wr.heap.size wr wl) (hA : Appended (kInt .u8) 5 wl w' F G v v' (bs ++ xs)) (hm : xs.length ≤ m) : Row w w' v' (bs ++ xs) (n + m) := by
  have hs := h.below.size
  have hs2 := hl.size
  have hn := h.len
  refine ⟨OwnS.flat (G := New w w') (flat_int _) hA.own fun j hj => ?_, (h.below.trans (hl.mono hs)).grown hA.grown (by omega) (fun j hj => (h.lt j hj).1), by rw [List.length_append]; omega⟩
  refine ⟨?_, (hA.own.lt j hj).2⟩
  rcases hA.lies j hj with h1 | h1
  · exact (h.lt j h1).1
  · have := h1.1; omega
theorem Row.made {w wr : World} {v : Value} {bs : List Int} {n : Nat} (h : Row w wr v bs n) : Made (kInt .u8) 5 w wr (New w wr) v bs := ⟨h.own, fun k hk => (h.lt k hk).1, h.below⟩
def VPut (w wr : World) (bs : List Int) (k : Nat) (e : Ending) (w' : World) : Prop := ∃ A n c, e = .returned (.slice A n c) ∧ Hid (Row w w' (.slice A n c) bs k) ∧ Below wr.heap.size wr w' ∧ Hid (∀ j, (Value.slice A n c).ownBlock = some j → wr.heap.size ≤ j)
theorem Row.put {w wr : World} {A : Option Addr} {n c : Nat} {bs : List Int} {k : Nat} (h : Row w wr (.slice A n c) bs k) (x : Nat) (hk : k ≤ 100000000000) {f : FuncId}
    (hp : ∀ (A : Option Addr) (n c : Nat) (bs : List Int) (x : Nat) (w : World) (F : Foot), RS (kInt .u8) w F A n bs → n ≤ 1000000000000 → x < 18446744073709551616 → Calls Tryd.prog f #[.slice A n c, .int .u64 x] w fun e w' => ∃ v, e = .returned v ∧ Made (kInt .u8) 5 w w' (New w w') v (bs ++ vput x)) (hx : x < 18446744073709551616) :
    Calls Tryd.prog f #[.slice A n c, .int .u64 x] wr (VPut w wr (bs ++ vput x) (k + 10)) := by
  obtain ⟨A', c', e', h1, h2, hr⟩ := h.own.reads
  injection e' with e1 e2 e3
  subst e1 e3
  have hl := h.len
  refine (hp A n c bs x wr _ (by rw [e2]; exact hr) (by omega) hx).mono ?_
  rintro e w' ⟨v, rfl, hM⟩
  obtain ⟨A2, n2, c2, rfl⟩ := hM.own.shape
  have hs := h.below.size
  have hv := vput_len x
  exact ⟨A2, n2, c2, rfl, ⟨hM.own.mono fun j hj => ⟨by have := hj.1; omega, hj.2⟩, h.below.trans (hM.below.mono hs), by rw [List.length_append]; omega⟩, hM.below, hM.new⟩
theorem tText : Tryd.prog.underlying 26 = some (.slice 5) := Tryd.underlying26
theorem iByte : (Tryd.prog.info? 5).map (fun i => (i.zero, i.size, i.bytes)) = some (some (.int .u8 0), 1, 1) := by kernel_rfl

set_option maxHeartbeats 8000000 in
set_option maxRecDepth 100000 in
theorem recPut_any (A : Option Addr) (n c : Nat) (bs : List Int) (r : Record) (w : World) (F : Foot) (hb : RS (kInt .u8) w F A n bs) (hn : n ≤ 1000000000) (hr : r.Okay) :
    Calls Tryd.prog 136 #[.slice A n c, .agg #[.int .i64 r.Offset, .int .i64 r.Time, .string r.Key, .string r.Value, .bool r.Dead]] w fun e w' => ∃ v, e = .returned v ∧ Made (kInt .u8) 5 w w' (New w w') v (bs ++ recPut r) := by
  have HRT := Lib.hid (fun w1 => Right_any r w1)
  have hok := Lib.hid hr
  obtain ⟨off0, tm, key, val, dead⟩ := r
  obtain ⟨h0, h1, h2, h3, h4, h5, h6, -⟩ := hr
  dsimp only at *
  obtain ⟨off, rfl⟩ := Int.eq_ofNat_of_zero_le h0
  obtain ⟨f, hf⟩ : ∃ f, Hid (vfold tm = f) := ⟨_, rfl⟩
  have hfl : f < 18446744073709551616 := by rw [← hf.out]; exact Okay.fold tm ⟨h2, h3⟩
  have HF := Lib.hid (fun w1 => vFold_any tm w1 ⟨h2, h3⟩)
  rw [hf.out] at HF
  have Hb := Lib.hid hb.length
  have hb0 := hb.alloc (.cells #[.int .i64 off, .int .i64 tm, .string key, .string val, .bool dead] 79)
  clear hb
  go_enter Tryd.func136, Tryd.ntmps136
  go_wp2_with (first
    | (at_builtin
       refine wpList_append_S rfl tBytes _ (.tmp 7) rfl (K := kInt .u8) (F := NoF) (v := .slice none 0 0) (xs := []) rfl rfl OwnS.nil hb0 (fun k hk => by simp [Value.ownBlock] at hk) ?_ ?_ ?_))
  · (try simp); omega
  · (try simp); omega
  intro v1 w1 hA
  have hqb : w.heap.size < (w.alloc (.cells #[.int .i64 off, .int .i64 tm, .string key, .string val, .bool dead] 79)).heap.size := by simp
  have hxb := Lib.hid (heap_alloc_new w (.cells #[.int .i64 off, .int .i64 tm, .string key, .string val, .bool dead] 79))
  have hBl : Hid (Below w.heap.size w (w.alloc (.cells #[.int .i64 off, .int .i64 tm, .string key, .string val, .bool dead] 79))) := (Below.refl _ _).alloc (Nat.le_refl _) _
  have HR1 : Hid (Row (w.alloc (.cells #[.int .i64 off, .int .i64 tm, .string key, .string val, .bool dead] 79)) w1 v1 bs n) := by
    refine ⟨OwnS.flat (G := New (w.alloc (.cells #[.int .i64 off, .int .i64 tm, .string key, .string val, .bool dead] 79)) w1) (flat_int _) hA.own fun j hj => ?_, (Below.refl _ _).grown hA.grown (Nat.le_refl _) (by simp [Value.ownBlock]), Nat.le_of_eq Hb.out⟩
    refine ⟨?_, (hA.own.lt j hj).2⟩
    rcases hA.lies j hj with h1 | h1
    · simp [Value.ownBlock] at h1
    · exact h1.1
  clear hA hb0
  generalize w.alloc (.cells #[.int .i64 off, .int .i64 tm, .string key, .string val, .bool dead] 79) = wb at hqb hxb hBl HR1
  obtain ⟨q, hqe⟩ : ∃ q, Hid (w.heap.size = q) := ⟨_, rfl⟩
  rw [hqe.out] at hqb hxb ⊢
  have hx1 := (HR1.out.below.block q hqb).trans hxb.out
  have hq1 : q < w1.heap.size := Nat.lt_of_lt_of_le hqb HR1.out.below.size
  obtain ⟨a0, a1, a2, a3, a4⟩ := box_Record (x := ⟨off, tm, key, val, dead⟩) hx1
  dsimp only at a0 a1 a2 a3 a4
  clear hx1
  obtain ⟨A1, n1, c1, rfl⟩ := HR1.out.own.shape
  go_wp2_with fail
  refine (HRT.out w1).mono ?_
  rintro e w2 ⟨rb, rfl, hrb, hbl⟩
  obtain rfl : rb = true := hrb.2 hok.out
  have HR2 : Hid (Row wb w2 (.slice A1 n1 c1) bs n) := HR1.out.moved hbl
  clear hrb hbl
  clear a0 a1 a2 a3 a4 hq1
  have hx2 := (HR2.out.below.block q hqb).trans hxb.out
  have hq2 : q < w2.heap.size := Nat.lt_of_lt_of_le hqb HR2.out.below.size
  obtain ⟨a0, a1, a2, a3, a4⟩ := box_Record (x := ⟨off, tm, key, val, dead⟩) hx2
  dsimp only at a0 a1 a2 a3 a4
  clear hx2
  go_wp2_with fail
  refine (HR2.out.put off (by omega) vPut_any (by omega)).mono ?_
  rintro e w3 ⟨A3, n3, c3, rfl, HR3, -, -⟩
  clear a0 a1 a2 a3 a4 hq2
  have hx3 := (HR3.out.below.block q hqb).trans hxb.out
  have hq3 : q < w3.heap.size := Nat.lt_of_lt_of_le hqb HR3.out.below.size
  obtain ⟨a0, a1, a2, a3, a4⟩ := box_Record (x := ⟨off, tm, key, val, dead⟩) hx3
  dsimp only at a0 a1 a2 a3 a4
  clear hx3
  go_wp2_with fail
  refine (HF.out w3).mono ?_
  rintro e w3' ⟨rfl, hw⟩
  rw [hw]
  clear hw w3'
  go_wp2_with fail
  refine (HR3.out.put f (by omega) vPut_any hfl).mono ?_
  rintro e w4 ⟨A4, n4, c4, rfl, HR4, -, -⟩
  obtain ⟨b4, hb4⟩ : ∃ b, Hid (bs ++ vput off ++ vput f = b) := ⟨_, rfl⟩
  rw [hb4.out] at HR4
  clear a0 a1 a2 a3 a4 hq3
  cases dead with
  | true =>
    have hx4 := (HR4.out.below.block q hqb).trans hxb.out
    have hq4 : q < w4.heap.size := Nat.lt_of_lt_of_le hqb HR4.out.below.size
    obtain ⟨a0, a1, a2, a3, a4⟩ := box_Record (x := ⟨off, tm, key, val, true⟩) hx4
    dsimp only at a0 a1 a2 a3 a4
    clear hx4
    have hr2 : RS (kInt .u8) (w4.alloc (.cells #[.int .u8 1] 5)) (fun j => j = w4.heap.size) (some ⟨w4.heap.size, 0, none⟩) 1 [1] := lit1 .u8 5 w4 _
    have hbl : Below w4.heap.size w4 (w4.alloc (.cells #[.int .u8 1] 5)) := (Below.refl _ _).alloc (Nat.le_refl _) _
    have hO3 := HR4.out.own.below hbl
    go_wp2_with (first
      | (at_builtin
         refine wpList_append_S rfl tBytes (.tmp 25) (.tmp 27) rfl (K := kInt .u8) rfl rfl hO3 hr2 ?_ ?_ ?_ ?_))
    · intro j hj hj2
      have h1 := (HR4.out.lt j hj).2
      have h2 : j = w4.heap.size := hj2
      omega
    · have := HR4.out.len; omega
    · have := HR4.out.len; omega
    intro v5 w5 hA
    have HR5 : Hid (Row wb w5 v5 (b4 ++ [1]) (n + 10 + 10 + 1)) := HR4.out.app hbl hA (Nat.le_refl _)
    obtain ⟨b5, hb5⟩ : ∃ b, Hid (b4 ++ [1] = b) := ⟨b4 ++ [1], rfl⟩
    rw [hb5.out] at HR5
    obtain ⟨A5, n5, c5, rfl⟩ := HR5.out.own.shape
    clear hA hr2 hbl hO3
    clear a0 a1 a2 a3 a4 hq4
    have hx5 := (HR5.out.below.block q hqb).trans hxb.out
    have hq5 : q < w5.heap.size := Nat.lt_of_lt_of_le hqb HR5.out.below.size
    obtain ⟨a0, a1, a2, a3, a4⟩ := box_Record (x := ⟨off, tm, key, val, true⟩) hx5
    dsimp only at a0 a1 a2 a3 a4
    clear hx5
    go_wp2_with fail
    have hNF : ¬ NoF q := id
    refine wp_region_plan [0, 0, 0, 0, 0, 1, 0, 0, 1, 2] (fun w' => ∃ D : Same NoF w5, w' = D.world) (by kernel_rfl) (by kernel_rfl) InSame.start ?_
    simp only [sel, selE, Nat.reduceEqDiff, reduceIte]
    repeat (go_big_quiet_step (fail))
    refine wpQuiet_nil ?_
    refine wpE_cons (fun N hN => ?_)
    go_wp2_with fail
    refine ((HR5.out.moved (drawn_below w5 1)).put key.size (by omega) vPut_any (by omega)).mono ?_
    rintro e w6 ⟨A6, n6, c6, rfl, HR6, hbl, hnew⟩
    have hbl2 : Below w5.heap.size w5 w6 := (drawn_below w5 1).trans hbl
    have HB6 := Lib.hid hbl2
    go_wp2
    refine hN _ _ (InSame.of_below hbl2) ?_
    clear hN N hbl hbl2
    obtain ⟨b6, hb6⟩ : ∃ b, Hid (b5 ++ vput key.size = b) := ⟨_, rfl⟩
    rw [hb6.out] at HR6
    refine wpE_cons (fun N hN => ?_)
    go_wp2_with (first
      | (at_builtin
         refine wpList_append_str rfl (.tmp 34) (.tmp 36) rfl tText Tryd.underlying9 iByte rfl rfl HR6.out.own ?_ ?_))
    · have := HR6.out.len; omega
    intro v7 w7 hA
    have HR7 : Hid (Row wb w7 v7 (b6 ++ numsOf key) (n + 10 + 10 + 1 + 10 + 200)) := HR6.out.app (Below.refl _ _) hA (by rw [numsOf_length]; omega)
    have hbl2 : Below w5.heap.size w5 w7 := HB6.out.grown hA.grown HB6.out.size (fun j hj => hnew.out j hj)
    obtain ⟨b7, hb7⟩ : ∃ b, Hid (b6 ++ numsOf key = b) := ⟨b6 ++ numsOf key, rfl⟩
    rw [hb7.out] at HR7
    obtain ⟨A7, n7, c7, rfl⟩ := HR7.out.own.shape
    clear hA
    go_wp2
    refine hN _ _ (InSame.of_below hbl2) ?_
    clear hN N hbl2 HB6 hnew
    refine wpE_nil ?_
    clear a0 a1 a2 a3 a4 hq5
    have hx7 := (HR7.out.below.block q hqb).trans hxb.out
    have hq7 : q < w7.heap.size := Nat.lt_of_lt_of_le hqb HR7.out.below.size
    obtain ⟨a0, a1, a2, a3, a4⟩ := box_Record (x := ⟨off, tm, key, val, true⟩) hx7
    dsimp only at a0 a1 a2 a3 a4
    clear hx7
    go_wp2_with fail
    have hNF : ¬ NoF q := id
    refine wp_region_plan [0, 0, 0, 0, 0, 1, 0, 0, 1, 2] (fun w' => ∃ D : Same NoF w7, w' = D.world) (by kernel_rfl) (by kernel_rfl) InSame.start ?_
    simp only [sel, selE, Nat.reduceEqDiff, reduceIte]
    repeat (go_big_quiet_step (fail))
    refine wpQuiet_nil ?_
    refine wpE_cons (fun N hN => ?_)
    go_wp2_with fail
    refine ((HR7.out.moved (drawn_below w7 1)).put val.size (by omega) vPut_any (by omega)).mono ?_
    rintro e w8 ⟨A8, n8, c8, rfl, HR8, hbl, hnew⟩
    have hbl2 : Below w7.heap.size w7 w8 := (drawn_below w7 1).trans hbl
    have HB8 := Lib.hid hbl2
    go_wp2
    refine hN _ _ (InSame.of_below hbl2) ?_
    clear hN N hbl hbl2
    obtain ⟨b8, hb8⟩ : ∃ b, Hid (b7 ++ vput val.size = b) := ⟨_, rfl⟩
    rw [hb8.out] at HR8
    refine wpE_cons (fun N hN => ?_)
    go_wp2_with (first
      | (at_builtin
         refine wpList_append_str rfl (.tmp 43) (.tmp 45) rfl tText Tryd.underlying9 iByte rfl rfl HR8.out.own ?_ ?_))
    · have := HR8.out.len; omega
    intro v9 w9 hA
    have HR9 : Hid (Row wb w9 v9 (b8 ++ numsOf val) (n + 10 + 10 + 1 + 10 + 200 + 10 + 2000)) := HR8.out.app (Below.refl _ _) hA (by rw [numsOf_length]; omega)
    have hbl2 : Below w7.heap.size w7 w9 := HB8.out.grown hA.grown HB8.out.size (fun j hj => hnew.out j hj)
    obtain ⟨b9, hb9⟩ : ∃ b, Hid (b8 ++ numsOf val = b) := ⟨b8 ++ numsOf val, rfl⟩
    rw [hb9.out] at HR9
    obtain ⟨A9, n9, c9, rfl⟩ := HR9.out.own.shape
    clear hA
    go_wp2
    refine hN _ _ (InSame.of_below hbl2) ?_
    clear hN N hbl2 HB8 hnew
    refine wpE_nil ?_
    clear a0 a1 a2 a3 a4 hq7
    go_wp2
    go_ret
    have he : bs ++ recPut ⟨off, tm, key, val, true⟩ = b9 := by
      rw [← hb9.out, ← hb8.out, ← hb7.out, ← hb6.out, ← hb5.out, ← hb4.out]
      unfold recPut
      rw [hf.out]
      simp
    rw [he]
    have hM := HR9.out.made
    have hs := hBl.out.size
    exact ⟨_, rfl, hM.own.mono fun k hk => ⟨by have := hk.1; omega, hk.2⟩, fun k hk => by have := hM.new k hk; omega, hBl.out.trans (hM.below.mono hs)⟩
  | false =>
    have hx4 := (HR4.out.below.block q hqb).trans hxb.out
    have hq4 : q < w4.heap.size := Nat.lt_of_lt_of_le hqb HR4.out.below.size
    obtain ⟨a0, a1, a2, a3, a4⟩ := box_Record (x := ⟨off, tm, key, val, false⟩) hx4
    dsimp only at a0 a1 a2 a3 a4
    clear hx4
    have hr2 : RS (kInt .u8) (w4.alloc (.cells #[.int .u8 0] 5)) (fun j => j = w4.heap.size) (some ⟨w4.heap.size, 0, none⟩) 1 [0] := lit1 .u8 5 w4 _
    have hbl : Below w4.heap.size w4 (w4.alloc (.cells #[.int .u8 0] 5)) := (Below.refl _ _).alloc (Nat.le_refl _) _
    have hO3 := HR4.out.own.below hbl
    go_wp2_with (first
      | (at_builtin
         refine wpList_append_S rfl tBytes (.tmp 25) (.tmp 27) rfl (K := kInt .u8) rfl rfl hO3 hr2 ?_ ?_ ?_ ?_))
    · intro j hj hj2
      have h1 := (HR4.out.lt j hj).2
      have h2 : j = w4.heap.size := hj2
      omega
    · have := HR4.out.len; omega
    · have := HR4.out.len; omega
    intro v5 w5 hA
    have HR5 : Hid (Row wb w5 v5 (b4 ++ [0]) (n + 10 + 10 + 1)) := HR4.out.app hbl hA (Nat.le_refl _)
    obtain ⟨b5, hb5⟩ : ∃ b, Hid (b4 ++ [0] = b) := ⟨b4 ++ [0], rfl⟩
    rw [hb5.out] at HR5
    obtain ⟨A5, n5, c5, rfl⟩ := HR5.out.own.shape
    clear hA hr2 hbl hO3
    clear a0 a1 a2 a3 a4 hq4
    have hx5 := (HR5.out.below.block q hqb).trans hxb.out
    have hq5 : q < w5.heap.size := Nat.lt_of_lt_of_le hqb HR5.out.below.size
    obtain ⟨a0, a1, a2, a3, a4⟩ := box_Record (x := ⟨off, tm, key, val, false⟩) hx5
    dsimp only at a0 a1 a2 a3 a4
    clear hx5
    go_wp2_with fail
    have hNF : ¬ NoF q := id
    refine wp_region_plan [0, 0, 0, 0, 0, 1, 0, 0, 1, 2] (fun w' => ∃ D : Same NoF w5, w' = D.world) (by kernel_rfl) (by kernel_rfl) InSame.start ?_
    simp only [sel, selE, Nat.reduceEqDiff, reduceIte]
    repeat (go_big_quiet_step (fail))
    refine wpQuiet_nil ?_
    refine wpE_cons (fun N hN => ?_)
    go_wp2_with fail
    refine ((HR5.out.moved (drawn_below w5 1)).put key.size (by omega) vPut_any (by omega)).mono ?_
    rintro e w6 ⟨A6, n6, c6, rfl, HR6, hbl, hnew⟩
    have hbl2 : Below w5.heap.size w5 w6 := (drawn_below w5 1).trans hbl
    have HB6 := Lib.hid hbl2
    go_wp2
    refine hN _ _ (InSame.of_below hbl2) ?_
    clear hN N hbl hbl2
    obtain ⟨b6, hb6⟩ : ∃ b, Hid (b5 ++ vput key.size = b) := ⟨_, rfl⟩
    rw [hb6.out] at HR6
    refine wpE_cons (fun N hN => ?_)
    go_wp2_with (first
      | (at_builtin
         refine wpList_append_str rfl (.tmp 34) (.tmp 36) rfl tText Tryd.underlying9 iByte rfl rfl HR6.out.own ?_ ?_))
    · have := HR6.out.len; omega
    intro v7 w7 hA
    have HR7 : Hid (Row wb w7 v7 (b6 ++ numsOf key) (n + 10 + 10 + 1 + 10 + 200)) := HR6.out.app (Below.refl _ _) hA (by rw [numsOf_length]; omega)
    have hbl2 : Below w5.heap.size w5 w7 := HB6.out.grown hA.grown HB6.out.size (fun j hj => hnew.out j hj)
    obtain ⟨b7, hb7⟩ : ∃ b, Hid (b6 ++ numsOf key = b) := ⟨b6 ++ numsOf key, rfl⟩
    rw [hb7.out] at HR7
    obtain ⟨A7, n7, c7, rfl⟩ := HR7.out.own.shape
    clear hA
    go_wp2
    refine hN _ _ (InSame.of_below hbl2) ?_
    clear hN N hbl2 HB6 hnew
    refine wpE_nil ?_
    clear a0 a1 a2 a3 a4 hq5
    have hx7 := (HR7.out.below.block q hqb).trans hxb.out
    have hq7 : q < w7.heap.size := Nat.lt_of_lt_of_le hqb HR7.out.below.size
    obtain ⟨a0, a1, a2, a3, a4⟩ := box_Record (x := ⟨off, tm, key, val, false⟩) hx7
    dsimp only at a0 a1 a2 a3 a4
    clear hx7
    go_wp2_with fail
    have hNF : ¬ NoF q := id
    refine wp_region_plan [0, 0, 0, 0, 0, 1, 0, 0, 1, 2] (fun w' => ∃ D : Same NoF w7, w' = D.world) (by kernel_rfl) (by kernel_rfl) InSame.start ?_
    simp only [sel, selE, Nat.reduceEqDiff, reduceIte]
    repeat (go_big_quiet_step (fail))
    refine wpQuiet_nil ?_
    refine wpE_cons (fun N hN => ?_)
    go_wp2_with fail
    refine ((HR7.out.moved (drawn_below w7 1)).put val.size (by omega) vPut_any (by omega)).mono ?_
    rintro e w8 ⟨A8, n8, c8, rfl, HR8, hbl, hnew⟩
    have hbl2 : Below w7.heap.size w7 w8 := (drawn_below w7 1).trans hbl
    have HB8 := Lib.hid hbl2
    go_wp2
    refine hN _ _ (InSame.of_below hbl2) ?_
    clear hN N hbl hbl2
    obtain ⟨b8, hb8⟩ : ∃ b, Hid (b7 ++ vput val.size = b) := ⟨_, rfl⟩
    rw [hb8.out] at HR8
    refine wpE_cons (fun N hN => ?_)
    go_wp2_with (first
      | (at_builtin
         refine wpList_append_str rfl (.tmp 43) (.tmp 45) rfl tText Tryd.underlying9 iByte rfl rfl HR8.out.own ?_ ?_))
    · have := HR8.out.len; omega
    intro v9 w9 hA
    have HR9 : Hid (Row wb w9 v9 (b8 ++ numsOf val) (n + 10 + 10 + 1 + 10 + 200 + 10 + 2000)) := HR8.out.app (Below.refl _ _) hA (by rw [numsOf_length]; omega)
    have hbl2 : Below w7.heap.size w7 w9 := HB8.out.grown hA.grown HB8.out.size (fun j hj => hnew.out j hj)
    obtain ⟨b9, hb9⟩ : ∃ b, Hid (b8 ++ numsOf val = b) := ⟨b8 ++ numsOf val, rfl⟩
    rw [hb9.out] at HR9
    obtain ⟨A9, n9, c9, rfl⟩ := HR9.out.own.shape
    clear hA
    go_wp2
    refine hN _ _ (InSame.of_below hbl2) ?_
    clear hN N hbl2 HB8 hnew
    refine wpE_nil ?_
    clear a0 a1 a2 a3 a4 hq7
    go_wp2
    go_ret
    have he : bs ++ recPut ⟨off, tm, key, val, false⟩ = b9 := by
      rw [← hb9.out, ← hb8.out, ← hb7.out, ← hb6.out, ← hb5.out, ← hb4.out]
      unfold recPut
      rw [hf.out]
      simp
    rw [he]
    have hM := HR9.out.made
    have hs := hBl.out.size
    exact ⟨_, rfl, hM.own.mono fun k hk => ⟨by have := hk.1; omega, hk.2⟩, fun k hk => by have := hM.new k hk; omega, hBl.out.trans (hM.below.mono hs)⟩

set_option maxHeartbeats 8000000 in
set_option maxRecDepth 100000 in
theorem rRecPut_any (A : Option Addr) (n c : Nat) (bs : List Int) (r : Record) (w : World) (F : Foot) (hb : RS (kInt .u8) w F A n bs) (hn : n ≤ 1000000000) (hr : r.Okay) :
    Calls Tryd.prog 104 #[.slice A n c, .agg #[.int .i64 r.Offset, .int .i64 r.Time, .string r.Key, .string r.Value, .bool r.Dead]] w fun e w' => ∃ v, e = .returned v ∧ Made (kInt .u8) 5 w w' (New w w') v (bs ++ recPut r) := by
  have HRT := Lib.hid (fun w1 => rRight_any r w1)
  have hok := Lib.hid hr
  obtain ⟨off0, tm, key, val, dead⟩ := r
  obtain ⟨h0, h1, h2, h3, h4, h5, h6, -⟩ := hr
  dsimp only at *
  obtain ⟨off, rfl⟩ := Int.eq_ofNat_of_zero_le h0
  obtain ⟨f, hf⟩ : ∃ f, Hid (vfold tm = f) := ⟨_, rfl⟩
  have hfl : f < 18446744073709551616 := by rw [← hf.out]; exact Okay.fold tm ⟨h2, h3⟩
  have HF := Lib.hid (fun w1 => rFold_any tm w1 ⟨h2, h3⟩)
  rw [hf.out] at HF
  have Hb := Lib.hid hb.length
  have hb0 := hb.alloc (.cells #[.int .i64 off, .int .i64 tm, .string key, .string val, .bool dead] 79)
  clear hb
  go_enter Tryd.func104, Tryd.ntmps104
  go_wp2_with (first
    | (at_builtin
       refine wpList_append_S rfl tBytes _ (.tmp 5) rfl (K := kInt .u8) (F := NoF) (v := .slice none 0 0) (xs := []) rfl rfl OwnS.nil hb0 (fun k hk => by simp [Value.ownBlock] at hk) ?_ ?_ ?_))
  · (try simp); omega
  · (try simp); omega
  intro v1 w1 hA
  have hqb : w.heap.size < (w.alloc (.cells #[.int .i64 off, .int .i64 tm, .string key, .string val, .bool dead] 79)).heap.size := by simp
  have hxb := Lib.hid (heap_alloc_new w (.cells #[.int .i64 off, .int .i64 tm, .string key, .string val, .bool dead] 79))
  have hBl : Hid (Below w.heap.size w (w.alloc (.cells #[.int .i64 off, .int .i64 tm, .string key, .string val, .bool dead] 79))) := (Below.refl _ _).alloc (Nat.le_refl _) _
  have HR1 : Hid (Row (w.alloc (.cells #[.int .i64 off, .int .i64 tm, .string key, .string val, .bool dead] 79)) w1 v1 bs n) := by
    refine ⟨OwnS.flat (G := New (w.alloc (.cells #[.int .i64 off, .int .i64 tm, .string key, .string val, .bool dead] 79)) w1) (flat_int _) hA.own fun j hj => ?_, (Below.refl _ _).grown hA.grown (Nat.le_refl _) (by simp [Value.ownBlock]), Nat.le_of_eq Hb.out⟩
    refine ⟨?_, (hA.own.lt j hj).2⟩
    rcases hA.lies j hj with h1 | h1
    · simp [Value.ownBlock] at h1
    · exact h1.1
  clear hA hb0
  generalize w.alloc (.cells #[.int .i64 off, .int .i64 tm, .string key, .string val, .bool dead] 79) = wb at hqb hxb hBl HR1
  obtain ⟨q, hqe⟩ : ∃ q, Hid (w.heap.size = q) := ⟨_, rfl⟩
  rw [hqe.out] at hqb hxb ⊢
  have hx1 := (HR1.out.below.block q hqb).trans hxb.out
  have hq1 : q < w1.heap.size := Nat.lt_of_lt_of_le hqb HR1.out.below.size
  obtain ⟨a0, a1, a2, a3, a4⟩ := box_Record (x := ⟨off, tm, key, val, dead⟩) hx1
  dsimp only at a0 a1 a2 a3 a4
  clear hx1
  obtain ⟨A1, n1, c1, rfl⟩ := HR1.out.own.shape
  go_wp2_with fail
  refine (HRT.out w1).mono ?_
  rintro e w2 ⟨rb, rfl, hrb, hbl⟩
  obtain rfl : rb = true := hrb.2 hok.out
  have HR2 : Hid (Row wb w2 (.slice A1 n1 c1) bs n) := HR1.out.moved hbl
  clear hrb hbl
  clear a0 a1 a2 a3 a4 hq1
  have hx2 := (HR2.out.below.block q hqb).trans hxb.out
  have hq2 : q < w2.heap.size := Nat.lt_of_lt_of_le hqb HR2.out.below.size
  obtain ⟨a0, a1, a2, a3, a4⟩ := box_Record (x := ⟨off, tm, key, val, dead⟩) hx2
  dsimp only at a0 a1 a2 a3 a4
  clear hx2
  go_wp2_with fail
  refine (HR2.out.put off (by omega) rPut_any (by omega)).mono ?_
  rintro e w3 ⟨A3, n3, c3, rfl, HR3, -, -⟩
  clear a0 a1 a2 a3 a4 hq2
  have hx3 := (HR3.out.below.block q hqb).trans hxb.out
  have hq3 : q < w3.heap.size := Nat.lt_of_lt_of_le hqb HR3.out.below.size
  obtain ⟨a0, a1, a2, a3, a4⟩ := box_Record (x := ⟨off, tm, key, val, dead⟩) hx3
  dsimp only at a0 a1 a2 a3 a4
  clear hx3
  go_wp2_with fail
  refine (HF.out w3).mono ?_
  rintro e w3' ⟨rfl, hw⟩
  rw [hw]
  clear hw w3'
  go_wp2_with fail
  refine (HR3.out.put f (by omega) rPut_any hfl).mono ?_
  rintro e w4 ⟨A4, n4, c4, rfl, HR4, -, -⟩
  obtain ⟨b4, hb4⟩ : ∃ b, Hid (bs ++ vput off ++ vput f = b) := ⟨_, rfl⟩
  rw [hb4.out] at HR4
  clear a0 a1 a2 a3 a4 hq3
  cases dead with
  | true =>
    have hx4 := (HR4.out.below.block q hqb).trans hxb.out
    have hq4 : q < w4.heap.size := Nat.lt_of_lt_of_le hqb HR4.out.below.size
    obtain ⟨a0, a1, a2, a3, a4⟩ := box_Record (x := ⟨off, tm, key, val, true⟩) hx4
    dsimp only at a0 a1 a2 a3 a4
    clear hx4
    have hr2 : RS (kInt .u8) (w4.alloc (.cells #[.int .u8 1] 5)) (fun j => j = w4.heap.size) (some ⟨w4.heap.size, 0, none⟩) 1 [1] := lit1 .u8 5 w4 _
    have hbl : Below w4.heap.size w4 (w4.alloc (.cells #[.int .u8 1] 5)) := (Below.refl _ _).alloc (Nat.le_refl _) _
    have hO3 := HR4.out.own.below hbl
    go_wp2_with (first
      | (at_builtin
         refine wpList_append_S rfl tBytes (.tmp 23) (.tmp 24) rfl (K := kInt .u8) rfl rfl hO3 hr2 ?_ ?_ ?_ ?_))
    · intro j hj hj2
      have h1 := (HR4.out.lt j hj).2
      have h2 : j = w4.heap.size := hj2
      omega
    · have := HR4.out.len; omega
    · have := HR4.out.len; omega
    intro v5 w5 hA
    have HR5 : Hid (Row wb w5 v5 (b4 ++ [1]) (n + 10 + 10 + 1)) := HR4.out.app hbl hA (Nat.le_refl _)
    obtain ⟨b5, hb5⟩ : ∃ b, Hid (b4 ++ [1] = b) := ⟨b4 ++ [1], rfl⟩
    rw [hb5.out] at HR5
    obtain ⟨A5, n5, c5, rfl⟩ := HR5.out.own.shape
    clear hA hr2 hbl hO3
    clear a0 a1 a2 a3 a4 hq4
    have hx5 := (HR5.out.below.block q hqb).trans hxb.out
    have hq5 : q < w5.heap.size := Nat.lt_of_lt_of_le hqb HR5.out.below.size
    obtain ⟨a0, a1, a2, a3, a4⟩ := box_Record (x := ⟨off, tm, key, val, true⟩) hx5
    dsimp only at a0 a1 a2 a3 a4
    clear hx5
    go_wp2_with fail
    have hNF : ¬ NoF q := id
    refine wp_region_plan [0, 0, 0, 0, 0, 1, 0, 0, 1, 2] (fun w' => ∃ D : Same NoF w5, w' = D.world) (by kernel_rfl) (by kernel_rfl) InSame.start ?_
    simp only [sel, selE, Nat.reduceEqDiff, reduceIte]
    repeat (go_big_quiet_step (fail))
    refine wpQuiet_nil ?_
    refine wpE_cons (fun N hN => ?_)
    go_wp2_with fail
    refine ((HR5.out.moved (drawn_below w5 1)).put key.size (by omega) rPut_any (by omega)).mono ?_
    rintro e w6 ⟨A6, n6, c6, rfl, HR6, hbl, hnew⟩
    have hbl2 : Below w5.heap.size w5 w6 := (drawn_below w5 1).trans hbl
    have HB6 := Lib.hid hbl2
    go_wp2
    refine hN _ _ (InSame.of_below hbl2) ?_
    clear hN N hbl hbl2
    obtain ⟨b6, hb6⟩ : ∃ b, Hid (b5 ++ vput key.size = b) := ⟨_, rfl⟩
    rw [hb6.out] at HR6
    refine wpE_cons (fun N hN => ?_)
    go_wp2_with (first
      | (at_builtin
         refine wpList_append_str rfl (.tmp 34) (.tmp 36) rfl tText Tryd.underlying9 iByte rfl rfl HR6.out.own ?_ ?_))
    · have := HR6.out.len; omega
    intro v7 w7 hA
    have HR7 : Hid (Row wb w7 v7 (b6 ++ numsOf key) (n + 10 + 10 + 1 + 10 + 200)) := HR6.out.app (Below.refl _ _) hA (by rw [numsOf_length]; omega)
    have hbl2 : Below w5.heap.size w5 w7 := HB6.out.grown hA.grown HB6.out.size (fun j hj => hnew.out j hj)
    obtain ⟨b7, hb7⟩ : ∃ b, Hid (b6 ++ numsOf key = b) := ⟨b6 ++ numsOf key, rfl⟩
    rw [hb7.out] at HR7
    obtain ⟨A7, n7, c7, rfl⟩ := HR7.out.own.shape
    clear hA
    go_wp2
    refine hN _ _ (InSame.of_below hbl2) ?_
    clear hN N hbl2 HB6 hnew
    refine wpE_nil ?_
    clear a0 a1 a2 a3 a4 hq5
    have hx7 := (HR7.out.below.block q hqb).trans hxb.out
    have hq7 : q < w7.heap.size := Nat.lt_of_lt_of_le hqb HR7.out.below.size
    obtain ⟨a0, a1, a2, a3, a4⟩ := box_Record (x := ⟨off, tm, key, val, true⟩) hx7
    dsimp only at a0 a1 a2 a3 a4
    clear hx7
    go_wp2_with fail
    have hNF : ¬ NoF q := id
    refine wp_region_plan [0, 0, 0, 0, 0, 1, 0, 0, 1, 2] (fun w' => ∃ D : Same NoF w7, w' = D.world) (by kernel_rfl) (by kernel_rfl) InSame.start ?_
    simp only [sel, selE, Nat.reduceEqDiff, reduceIte]
    repeat (go_big_quiet_step (fail))
    refine wpQuiet_nil ?_
    refine wpE_cons (fun N hN => ?_)
    go_wp2_with fail
    refine ((HR7.out.moved (drawn_below w7 1)).put val.size (by omega) rPut_any (by omega)).mono ?_
    rintro e w8 ⟨A8, n8, c8, rfl, HR8, hbl, hnew⟩
    have hbl2 : Below w7.heap.size w7 w8 := (drawn_below w7 1).trans hbl
    have HB8 := Lib.hid hbl2
    go_wp2
    refine hN _ _ (InSame.of_below hbl2) ?_
    clear hN N hbl hbl2
    obtain ⟨b8, hb8⟩ : ∃ b, Hid (b7 ++ vput val.size = b) := ⟨_, rfl⟩
    rw [hb8.out] at HR8
    refine wpE_cons (fun N hN => ?_)
    go_wp2_with (first
      | (at_builtin
         refine wpList_append_str rfl (.tmp 43) (.tmp 45) rfl tText Tryd.underlying9 iByte rfl rfl HR8.out.own ?_ ?_))
    · have := HR8.out.len; omega
    intro v9 w9 hA
    have HR9 : Hid (Row wb w9 v9 (b8 ++ numsOf val) (n + 10 + 10 + 1 + 10 + 200 + 10 + 2000)) := HR8.out.app (Below.refl _ _) hA (by rw [numsOf_length]; omega)
    have hbl2 : Below w7.heap.size w7 w9 := HB8.out.grown hA.grown HB8.out.size (fun j hj => hnew.out j hj)
    obtain ⟨b9, hb9⟩ : ∃ b, Hid (b8 ++ numsOf val = b) := ⟨b8 ++ numsOf val, rfl⟩
    rw [hb9.out] at HR9
    obtain ⟨A9, n9, c9, rfl⟩ := HR9.out.own.shape
    clear hA
    go_wp2
    refine hN _ _ (InSame.of_below hbl2) ?_
    clear hN N hbl2 HB8 hnew
    refine wpE_nil ?_
    clear a0 a1 a2 a3 a4 hq7
    go_wp2
    go_ret
    have he : bs ++ recPut ⟨off, tm, key, val, true⟩ = b9 := by
      rw [← hb9.out, ← hb8.out, ← hb7.out, ← hb6.out, ← hb5.out, ← hb4.out]
      unfold recPut
      rw [hf.out]
      simp
    rw [he]
    have hM := HR9.out.made
    have hs := hBl.out.size
    exact ⟨_, rfl, hM.own.mono fun k hk => ⟨by have := hk.1; omega, hk.2⟩, fun k hk => by have := hM.new k hk; omega, hBl.out.trans (hM.below.mono hs)⟩
  | false =>
    have hx4 := (HR4.out.below.block q hqb).trans hxb.out
    have hq4 : q < w4.heap.size := Nat.lt_of_lt_of_le hqb HR4.out.below.size
    obtain ⟨a0, a1, a2, a3, a4⟩ := box_Record (x := ⟨off, tm, key, val, false⟩) hx4
    dsimp only at a0 a1 a2 a3 a4
    clear hx4
    have hr2 : RS (kInt .u8) (w4.alloc (.cells #[.int .u8 0] 5)) (fun j => j = w4.heap.size) (some ⟨w4.heap.size, 0, none⟩) 1 [0] := lit1 .u8 5 w4 _
    have hbl : Below w4.heap.size w4 (w4.alloc (.cells #[.int .u8 0] 5)) := (Below.refl _ _).alloc (Nat.le_refl _) _
    have hO3 := HR4.out.own.below hbl
    go_wp2_with (first
      | (at_builtin
         refine wpList_append_S rfl tBytes (.tmp 26) (.tmp 27) rfl (K := kInt .u8) rfl rfl hO3 hr2 ?_ ?_ ?_ ?_))
    · intro j hj hj2
      have h1 := (HR4.out.lt j hj).2
      have h2 : j = w4.heap.size := hj2
      omega
    · have := HR4.out.len; omega
    · have := HR4.out.len; omega
    intro v5 w5 hA
    have HR5 : Hid (Row wb w5 v5 (b4 ++ [0]) (n + 10 + 10 + 1)) := HR4.out.app hbl hA (Nat.le_refl _)
    obtain ⟨b5, hb5⟩ : ∃ b, Hid (b4 ++ [0] = b) := ⟨b4 ++ [0], rfl⟩
    rw [hb5.out] at HR5
    obtain ⟨A5, n5, c5, rfl⟩ := HR5.out.own.shape
    clear hA hr2 hbl hO3
    clear a0 a1 a2 a3 a4 hq4
    have hx5 := (HR5.out.below.block q hqb).trans hxb.out
    have hq5 : q < w5.heap.size := Nat.lt_of_lt_of_le hqb HR5.out.below.size
    obtain ⟨a0, a1, a2, a3, a4⟩ := box_Record (x := ⟨off, tm, key, val, false⟩) hx5
    dsimp only at a0 a1 a2 a3 a4
    clear hx5
    go_wp2_with fail
    have hNF : ¬ NoF q := id
    refine wp_region_plan [0, 0, 0, 0, 0, 1, 0, 0, 1, 2] (fun w' => ∃ D : Same NoF w5, w' = D.world) (by kernel_rfl) (by kernel_rfl) InSame.start ?_
    simp only [sel, selE, Nat.reduceEqDiff, reduceIte]
    repeat (go_big_quiet_step (fail))
    refine wpQuiet_nil ?_
    refine wpE_cons (fun N hN => ?_)
    go_wp2_with fail
    refine ((HR5.out.moved (drawn_below w5 1)).put key.size (by omega) rPut_any (by omega)).mono ?_
    rintro e w6 ⟨A6, n6, c6, rfl, HR6, hbl, hnew⟩
    have hbl2 : Below w5.heap.size w5 w6 := (drawn_below w5 1).trans hbl
    have HB6 := Lib.hid hbl2
    go_wp2
    refine hN _ _ (InSame.of_below hbl2) ?_
    clear hN N hbl hbl2
    obtain ⟨b6, hb6⟩ : ∃ b, Hid (b5 ++ vput key.size = b) := ⟨_, rfl⟩
    rw [hb6.out] at HR6
    refine wpE_cons (fun N hN => ?_)
    go_wp2_with (first
      | (at_builtin
         refine wpList_append_str rfl (.tmp 34) (.tmp 36) rfl tText Tryd.underlying9 iByte rfl rfl HR6.out.own ?_ ?_))
    · have := HR6.out.len; omega
    intro v7 w7 hA
    have HR7 : Hid (Row wb w7 v7 (b6 ++ numsOf key) (n + 10 + 10 + 1 + 10 + 200)) := HR6.out.app (Below.refl _ _) hA (by rw [numsOf_length]; omega)
    have hbl2 : Below w5.heap.size w5 w7 := HB6.out.grown hA.grown HB6.out.size (fun j hj => hnew.out j hj)
    obtain ⟨b7, hb7⟩ : ∃ b, Hid (b6 ++ numsOf key = b) := ⟨b6 ++ numsOf key, rfl⟩
    rw [hb7.out] at HR7
    obtain ⟨A7, n7, c7, rfl⟩ := HR7.out.own.shape
    clear hA
    go_wp2
    refine hN _ _ (InSame.of_below hbl2) ?_
    clear hN N hbl2 HB6 hnew
    refine wpE_nil ?_
    clear a0 a1 a2 a3 a4 hq5
    have hx7 := (HR7.out.below.block q hqb).trans hxb.out
    have hq7 : q < w7.heap.size := Nat.lt_of_lt_of_le hqb HR7.out.below.size
    obtain ⟨a0, a1, a2, a3, a4⟩ := box_Record (x := ⟨off, tm, key, val, false⟩) hx7
    dsimp only at a0 a1 a2 a3 a4
    clear hx7
    go_wp2_with fail
    have hNF : ¬ NoF q := id
    refine wp_region_plan [0, 0, 0, 0, 0, 1, 0, 0, 1, 2] (fun w' => ∃ D : Same NoF w7, w' = D.world) (by kernel_rfl) (by kernel_rfl) InSame.start ?_
    simp only [sel, selE, Nat.reduceEqDiff, reduceIte]
    repeat (go_big_quiet_step (fail))
    refine wpQuiet_nil ?_
    refine wpE_cons (fun N hN => ?_)
    go_wp2_with fail
    refine ((HR7.out.moved (drawn_below w7 1)).put val.size (by omega) rPut_any (by omega)).mono ?_
    rintro e w8 ⟨A8, n8, c8, rfl, HR8, hbl, hnew⟩
    have hbl2 : Below w7.heap.size w7 w8 := (drawn_below w7 1).trans hbl
    have HB8 := Lib.hid hbl2
    go_wp2
    refine hN _ _ (InSame.of_below hbl2) ?_
    clear hN N hbl hbl2
    obtain ⟨b8, hb8⟩ : ∃ b, Hid (b7 ++ vput val.size = b) := ⟨_, rfl⟩
    rw [hb8.out] at HR8
    refine wpE_cons (fun N hN => ?_)
    go_wp2_with (first
      | (at_builtin
         refine wpList_append_str rfl (.tmp 43) (.tmp 45) rfl tText Tryd.underlying9 iByte rfl rfl HR8.out.own ?_ ?_))
    · have := HR8.out.len; omega
    intro v9 w9 hA
    have HR9 : Hid (Row wb w9 v9 (b8 ++ numsOf val) (n + 10 + 10 + 1 + 10 + 200 + 10 + 2000)) := HR8.out.app (Below.refl _ _) hA (by rw [numsOf_length]; omega)
    have hbl2 : Below w7.heap.size w7 w9 := HB8.out.grown hA.grown HB8.out.size (fun j hj => hnew.out j hj)
    obtain ⟨b9, hb9⟩ : ∃ b, Hid (b8 ++ numsOf val = b) := ⟨b8 ++ numsOf val, rfl⟩
    rw [hb9.out] at HR9
    obtain ⟨A9, n9, c9, rfl⟩ := HR9.out.own.shape
    clear hA
    go_wp2
    refine hN _ _ (InSame.of_below hbl2) ?_
    clear hN N hbl2 HB8 hnew
    refine wpE_nil ?_
    clear a0 a1 a2 a3 a4 hq7
    go_wp2
    go_ret
    have he : bs ++ recPut ⟨off, tm, key, val, false⟩ = b9 := by
      rw [← hb9.out, ← hb8.out, ← hb7.out, ← hb6.out, ← hb5.out, ← hb4.out]
      unfold recPut
      rw [hf.out]
      simp
    rw [he]
    have hM := HR9.out.made
    have hs := hBl.out.size
    exact ⟨_, rfl, hM.own.mono fun k hk => ⟨by have := hk.1; omega, hk.2⟩, fun k hk => by have := hM.new k hk; omega, hBl.out.trans (hM.below.mono hs)⟩
end Go.Proofs.YtfjndjbpgcggkaaDoor
