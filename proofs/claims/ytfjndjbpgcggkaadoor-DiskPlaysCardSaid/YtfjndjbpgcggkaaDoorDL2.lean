/- The law DiskPlays: one call by both. Printed by gen_dl2.py (own work). -/
import Derived.Test.YtfjndjbpgcggkaaDoorDL1
import Derived.Test.YtfjndjbpgcggkaaDoorDRC
import Derived.Test.YtfjndjbpgcggkaaDoorPD
import Derived.Test.YtfjndjbpgcggkaaDoorDKW
import Derived.Test.YtfjndjbpgcggkaaDoorTO
set_option linter.unusedVariables false
set_option linter.unusedSimpArgs false
namespace Go.Proofs.YtfjndjbpgcggkaaDoor
open Go.RowKit
attribute [local go_sem] Same.cell Same.frozen

theorem int_range {x : Int} (h : IntOk .i64 x) : -9223372036854775808 ≤ x ∧ x ≤ 9223372036854775807 := bounds_i64 h

def KeysOk (c : FObjs) : Prop := ∀ s, look s c ≠ none → validName s = true
theorem KeysOk.put {c : FObjs} (h : KeysOk c) {s : ByteArray} (hs : validName s = true) (f : List Int × Nat) : KeysOk (oput s f c) := fun t ht => by
  by_cases hts : t = s
  · rw [hts]; exact hs
  · rw [look_oput_other s t f c hts] at ht; exact h t ht
theorem KeysOk.del {c : FObjs} (h : KeysOk c) (hn : (c.map (·.1)).Nodup) (s : ByteArray) : KeysOk (odel s c) := fun t ht => by
  by_cases hts : t = s
  · subst hts; rw [look_odel_same t c hn] at ht; exact absurd rfl ht
  · rw [look_odel_other s t hts c] at ht; exact h t ht
theorem dfound_valid {s : ByteArray} {c : FObjs} (h : (dfound s c).2 = 0) : validName s = true := (dfound_ok s c h).2
theorem KeysOk.sync {c : FObjs} (h : KeysOk c) (s : ByteArray) : KeysOk (dsyncC s c) := by
  unfold dsyncC; split
  · rename_i he; exact h.put (dfound_valid he) _
  · exact h
theorem KeysOk.cut {c : FObjs} (h : KeysOk c) (s : ByteArray) (n : Int) : KeysOk (dcutC s n c) := by
  unfold dcutC; split
  · rename_i he; exact h.put (dfound_valid he) _
  · exact h
theorem KeysOk.app {c : FObjs} (h : KeysOk c) (s : ByteArray) (b : List Int) (room : Int) : KeysOk (dappC s b room c) := by
  unfold dappC; split
  · rename_i he
    refine h.put ?_ _
    cases hv : validName s with
    | true => rfl
    | false => unfold dappE at he; rw [if_pos hv] at he; exact absurd he (by decide)
  · exact h
theorem KeysOk.ren {c : FObjs} (h : KeysOk c) (hn : (c.map (·.1)).Nodup) (p q : ByteArray) : KeysOk (drenC p q c) := by
  unfold drenC; split
  · exact h
  · rename_i hx
    exact (h.put (by have : ¬ validName q = false := fun e => hx (.inl e); simpa using this) _).del (nodup_oput q _ c hn) p
theorem KeysOk.rem {c : FObjs} (h : KeysOk c) (hn : (c.map (·.1)).Nodup) (s : ByteArray) : KeysOk (dremC s c) := by
  unfold dremC; split
  · exact h.del hn s
  · exact h
theorem KeysOk.crashGo {ks : List Int} : ∀ (ss : List ByteArray) (c : FObjs) (ks : List Int), KeysOk c → KeysOk (crashGo ss c ks)
  | [], _, _, h => h
  | s :: ss, c, ks, h => by
    rw [crashGo_cons]
    cases hl : look s c with
    | none => exact KeysOk.crashGo (ks := ks) ss c ks h
    | some f =>
      dsimp only
      split
      · exact KeysOk.crashGo (ks := ks) ss c ks h
      · exact KeysOk.crashGo (ks := ks) ss _ _ (h.put (h s (by rw [hl]; exact fun e => by cases e)) _)
theorem rput_len (f : RFile) (l : List RFile) : (rput f l).length ≤ l.length + 1 := by
  unfold rput
  have := kp_le f.name l
  rw [List.length_append, List.length_cons, List.length_take, List.length_drop]
  split <;> omega
theorem rsyncL_len (s : ByteArray) (l : List RFile) : (rsyncL s l).length ≤ l.length + 1 := by
  unfold rsyncL; split
  · exact rput_len _ _
  · omega
theorem rcutL_len (s : ByteArray) (n : Int) (l : List RFile) : (rcutL s n l).length ≤ l.length + 1 := by
  unfold rcutL; split
  · exact rput_len _ _
  · omega
theorem rappL_len (s : ByteArray) (b : List Int) (room : Int) (l : List RFile) : (rappL s b room l).length ≤ l.length + 1 := by
  unfold rappL; split
  · exact rput_len _ _
  · omega
theorem rrenL_len (p q : ByteArray) (l : List RFile) : (rrenL p q l).length ≤ l.length + 1 := by
  unfold rrenL; split
  · omega
  · exact Nat.le_trans (rput_len _ _) (by have := rremL_len p l; omega)
theorem tot_sync (s : ByteArray) (c : FObjs) : osum flen (dsyncC s c) ≤ osum flen c := by
  unfold dsyncC
  split
  · exact tot_less s _ c (szAt_dfound s c)
  · exact Nat.le_refl _
theorem tot_cut (s : ByteArray) (n : Int) (c : FObjs) : osum flen (dcutC s n c) ≤ osum flen c := by
  unfold dcutC
  split
  · exact tot_less s _ c (Nat.le_trans (by simp only [List.length_take]; omega) (szAt_dfound s c))
  · exact Nat.le_refl _
theorem tot_rem (s : ByteArray) (c : FObjs) : osum flen (dremC s c) ≤ osum flen c := tot_dremC s c

/-- The program's disk and the document's: they hold the same. -/
structure Both (B : Nat) (W : World) (F FR : Foot) (db rb : Nat) (room : Int) (n : Nat) (c : FObjs) (l : List RFile) : Prop where
  d : DW B W F db room c
  r : ∃ A cc, RefAt W FR rb room l A cc
  ap : Apart F FR
  rin : ∀ k, FR k → k < W.heap.size
  rB : ∀ k, FR k → B ≤ k
  ag : DAgree l c
  ko : KeysOk c
  ln : l.length ≤ n
  tot : osum flen c ≤ 500 * n
def DoP (B : Nat) (w : World) (F FR : Foot) (db rb : Nat) (room : Int) (n : Nat) (e : Ending) (w' : World) : Prop :=
  e = .returned (.bool true) ∧ ∃ F' FR' c' l', Both B w' F' FR' db rb room (n + 1) c' l' ∧ (∀ k, F' k → F k ∨ w.heap.size ≤ k) ∧ (∀ k, FR' k → FR k ∨ w.heap.size ≤ k) ∧ Keeps (fun k => F k ∨ FR k) w w'
section
variable {B db rb n : Nat} {w w1 w2 w3 w' : World} {F FR : Foot} {room : Int} {c c' : FObjs} {l l' : List RFile}
theorem Both.below (h : Both B w F FR db rb room n c l) (hb : Below w.heap.size w w') : Both B w' F FR db rb room n c l := by
  obtain ⟨A, cc, hr⟩ := h.r
  exact ⟨h.d.below hb, ⟨A, cc, hr.below hb⟩, h.ap, fun k hk => Nat.lt_of_lt_of_le (h.rin k hk) hb.size, h.rB, h.ag, h.ko, h.ln, h.tot⟩
theorem Both.le (h : Both B w F FR db rb room n c l) {m : Nat} (hm : n ≤ m) : Both B w F FR db rb room m c l :=
  ⟨h.d, h.r, h.ap, h.rin, h.rB, h.ag, h.ko, Nat.le_trans h.ln hm, by have := h.tot; omega⟩
theorem Both.r2 (h : Both B w1 F FR db rb room n c l) (hk : Keeps F w1 w2) : ∃ A cc, RefAt w2 FR rb room l A cc := by
  obtain ⟨A, cc, hr⟩ := h.r
  exact ⟨A, cc, hr.keep hk.size fun k hf hl => hk.block k hl fun h2 => h.ap k h2 hf⟩
theorem Both.step (h : Both B w1 F FR db rb room n c l) (hd : DW B w2 (Grow F w1 w2) db room c') (hk : Keeps F w1 w2) (hr : ∃ A cc, RefAt w3 (Grow FR w2 w3) rb room l' A cc) (hk3 : Keeps FR w2 w3) (ag : DAgree l' c') (ko : KeysOk c') (ln : l'.length ≤ n + 1) (tot : osum flen c' ≤ 500 * (n + 1)) :
    Both B w3 (Grow F w1 w2) (Grow FR w2 w3) db rb room (n + 1) c' l' := by
  have hs2 := hk.size
  have hs3 := hk3.size
  refine ⟨hd.keeps hk3 (fun k hk1 hk2 => ?_) h.rB, hr, fun k hk1 hk2 => ?_, fun k hk1 => ?_, fun k hk1 => ?_, ag, ko, ln, tot⟩
  · rcases hk1 with hk1 | hk1
    · exact h.ap k hk1 hk2
    · have := h.rin k hk2; omega
  · rcases hk1 with hk1 | hk1 <;> rcases hk2 with hk2 | hk2
    · exact h.ap k hk1 hk2
    · have := h.d.fin k hk1; omega
    · have := h.rin k hk2; omega
    · omega
  · rcases hk1 with hk1 | hk1
    · have := h.rin k hk1; omega
    · exact hk1.2
  · rcases hk1 with hk1 | hk1
    · exact h.rB k hk1
    · have := h.d.env.le; omega
theorem DoP.mk (hb : Below w.heap.size w w1) (h : Both B w1 F FR db rb room n c l) (hd : DW B w2 (Grow F w1 w2) db room c') (hk : Keeps F w1 w2) (hr : ∃ A cc, RefAt w3 (Grow FR w2 w3) rb room l' A cc) (hk3 : Keeps FR w2 w3) (ag : DAgree l' c') (ko : KeysOk c') (ln : l'.length ≤ n + 1) (tot : osum flen c' ≤ 500 * (n + 1)) :
    DoP B w F FR db rb room n (.returned (.bool true)) w3 := by
  have hs1 := hb.size
  have hs2 := hk.size
  refine ⟨rfl, _, _, c', l', h.step hd hk hr hk3 ag ko ln tot, fun k hq => ?_, fun k hq => ?_, ?_⟩
  · rcases hq with hq | hq
    · exact .inl hq
    · exact .inr (by omega)
  · rcases hq with hq | hq
    · exact .inl hq
    · exact .inr (by omega)
  · exact ((Keeps.of_below hb _).step hk fun k hq _ => .inl hq).step hk3 fun k hq _ => .inr hq
/-- Of the document's files: how long they are. -/
theorem Both.lo (h : Both B w F FR db rb room n c l) : ∀ x ∈ l, 0 ≤ x.loose ∧ x.loose ≤ x.b.length ∧ x.b.length ≤ 1000000000000 := by
  intro x hx
  obtain ⟨s, a, rfl, hl⟩ := (h.ag.iff x).1 hx
  obtain ⟨mb, clock, m, hI⟩ := h.d.at_
  have := hI.len _ (look_mem s a c hl)
  exact ⟨by show (0 : Int) ≤ (a.2 : Int); omega, by show (a.2 : Int) ≤ (a.1.length : Int); have := this.2; dsimp only at this; omega, this.1⟩
end

section
variable {B db rb n : Nat} {w : World} {F FR : Foot} {room : Int} {c : FObjs} {l : List RFile} {a : DAct} {A4 : Option Addr} {c4 : Nat} {A5 : Option Addr} {c5 : Nat}

set_option maxRecDepth 100000 in
set_option maxHeartbeats 4000000 in
theorem do_sync (h : Both B w F FR db rb room n c l) (hn : n ≤ 1000) (ha : a.Small) (hi : IntOk .i64 a.N) (hw : a.Way = 1) :
    Calls Tryd.prog 38 #[.pointer (some ⟨db, 0, none⟩), .pointer (some ⟨rb, 0, none⟩), .agg #[.int .i64 a.Way, .int .i64 a.N, .string a.P, .string a.Q, .slice A4 a.B.length c4, .slice A5 a.Keep.length c5]] w (DoP B w F FR db rb room n) := by
  have e0 : (a.Way == 0) = false := by rw [beq_eq_false_iff_ne]; omega
  have e1 : (a.Way == 1) = true := by rw [beq_iff_eq]; exact hw
  obtain ⟨ha1, ha2, ha3, ha4⟩ := ha
  obtain ⟨hi1, hi2⟩ := int_range hi
  clear hw hi
  go_enter Tryd.func38, Tryd.ntmps38
  go_wp2_with fail
  have hb1 : Below w.heap.size w (w.alloc (.cells #[.int .i64 a.Way, .int .i64 a.N, .string a.P, .string a.Q, .slice A4 a.B.length c4, .slice A5 a.Keep.length c5] 72)) := (Below.refl _ _).alloc (Nat.le_refl _) _
  have hbx : (w.alloc (.cells #[.int .i64 a.Way, .int .i64 a.N, .string a.P, .string a.Q, .slice A4 a.B.length c4, .slice A5 a.Keep.length c5] 72)).heap[w.heap.size]? = some (.cells #[.int .i64 a.Way, .int .i64 a.N, .string a.P, .string a.Q, .slice A4 a.B.length c4, .slice A5 a.Keep.length c5] 72 (0, 0)) := heap_alloc_new w _
  have hs1 : w.heap.size < (w.alloc (.cells #[.int .i64 a.Way, .int .i64 a.N, .string a.P, .string a.Q, .slice A4 a.B.length c4, .slice A5 a.Keep.length c5] 72)).heap.size := by simp
  have hP1 := h.below hb1
  have hbF1 : ¬ F w.heap.size := fun hk => by have := h.d.fin _ hk; omega
  have hbF3 : ¬ FR w.heap.size := fun hk => by have := h.rin _ hk; omega
  generalize w.alloc (.cells #[.int .i64 a.Way, .int .i64 a.N, .string a.P, .string a.Q, .slice A4 a.B.length c4, .slice A5 a.Keep.length c5] 72) = w1 at hb1 hbx hs1 hP1 ⊢
  obtain ⟨q0, q1, q2, q3, q4, q5⟩ := box_DAct hbx
  obtain ⟨S, HS⟩ : ∃ S : Foot, Hid (∀ k, S k ↔ F k ∨ FR k) := ⟨_, fun _ => Iff.rfl⟩
  have hSb : ¬ S w.heap.size := fun hk => ((HS.out _).1 hk).elim hbF1 hbF3
  clear hbx
  have hPd := Lib.hid (hP1.below (drawn_below w1 1))
  have hb1d := Lib.hid (hb1.drew)
  obtain ⟨er, her⟩ : ∃ er, Hid ((dfound a.P c).2 = er) := ⟨_, rfl⟩
  have her2 : Hid ((rgot a.P l).2 = er) := ((h.ag.got a.P).1).trans her.out
  have eer : (er == er) = true := by rw [beq_iff_eq]
  clear hP1 hb1 hbF1 hbF3
  refine wp_region_plan [0,0,0,1,1,0,0,0,1,1,1] (fun w' => ∃ D : Same S w1, w' = D.world) (by kernel_rfl) (by kernel_rfl) InSame.start ?_
  simp only [sel, selE, Nat.reduceEqDiff, reduceIte]
  repeat (go_big_quiet_step (fail))
  refine wpQuiet_nil ?_
  refine wpE_cons (fun N hN => ?_)
  go_wp2_with fail
  refine (wSync B db a.P w1.drew F room c hPd.out.d (by omega)).mono ?_
  rintro e w2 ⟨rfl, hd2, hk2⟩
  rw [her.out]
  have hs2 := hk2.size
  rw [World.size_drew] at hs2
  have HC2 : Hid (∀ k, k < w1.heap.size → ¬ S k → w2.heap[k]? = w1.heap[k]?) := fun k hk hn => hk2.block k hk (fun h => hn ((HS.out k).2 (.inl h)))
  have HD2 := Lib.hid (And.intro hd2 hk2)
  clear hd2 hk2
  go_wp2
  refine hN _ _ ⟨⟨w2, HC2.out⟩, rfl⟩ ?_
  clear hN N
  refine wpE_cons (fun N hN => ?_)
  go_wp2_with fail
  refine (num_any _ w2).mono ?_
  rintro e w2' ⟨rfl, rfl⟩
  go_wp2
  refine hN _ _ ⟨⟨w2, HC2.out⟩, rfl⟩ ?_
  clear hN N
  refine wpE_cons (fun N hN => ?_)
  go_wp2_with fail
  obtain ⟨A, cc, hr2⟩ := hPd.out.r2 HD2.out.2
  refine (rsync_any rb a.P w2 FR room l A cc hr2 (by have := hPd.out.ln; omega) (by omega)).mono ?_
  rintro e w3 ⟨rfl, hr3, hk3⟩
  rw [her2.out]
  have HC3 : Hid (∀ k, k < w1.heap.size → ¬ S k → w3.heap[k]? = w1.heap[k]?) := fun k hk hn => (hk3.block k (by omega) (fun h => hn ((HS.out k).2 (.inr (by have h : k = rb := h; rw [h]; exact hr2.fs))))).trans (HC2.out k hk hn)
  have HR3 := Lib.hid (And.intro hr3 (hk3.mono (T := FR) (fun k _ h => by have h : k = rb := h; rw [h]; exact hr2.fs)))
  clear hr3 hk3 hr2
  go_wp2
  refine hN _ _ ⟨⟨w3, HC3.out⟩, rfl⟩ ?_
  clear hN N
  refine wpE_cons (fun N hN => ?_)
  go_wp2
  refine hN _ _ ⟨⟨w3, HC3.out⟩, rfl⟩ ?_
  clear hN N
  refine wpE_cons (fun N hN => ?_)
  go_wp2
  refine hN _ _ ⟨⟨w3, HC3.out⟩, rfl⟩ ?_
  clear hN N
  refine wpE_nil ?_
  go_wp2
  go_ret
  exact DoP.mk hb1d.out hPd.out HD2.out.1 HD2.out.2 HR3.out.1 HR3.out.2 (hPd.out.ag.sync a.P) (hPd.out.ko.sync a.P) (by have := hPd.out.ln; have := rsyncL_len a.P l; omega) (by have := hPd.out.tot; have := tot_sync a.P c; omega)

set_option maxRecDepth 100000 in
set_option maxHeartbeats 4000000 in
theorem do_cut (h : Both B w F FR db rb room n c l) (hn : n ≤ 1000) (ha : a.Small) (hi : IntOk .i64 a.N) (hw : a.Way = 2) :
    Calls Tryd.prog 38 #[.pointer (some ⟨db, 0, none⟩), .pointer (some ⟨rb, 0, none⟩), .agg #[.int .i64 a.Way, .int .i64 a.N, .string a.P, .string a.Q, .slice A4 a.B.length c4, .slice A5 a.Keep.length c5]] w (DoP B w F FR db rb room n) := by
  have e0 : (a.Way == 0) = false := by rw [beq_eq_false_iff_ne]; omega
  have e1 : (a.Way == 1) = false := by rw [beq_eq_false_iff_ne]; omega
  have e2 : (a.Way == 2) = true := by rw [beq_iff_eq]; exact hw
  obtain ⟨ha1, ha2, ha3, ha4⟩ := ha
  obtain ⟨hi1, hi2⟩ := int_range hi
  clear hw hi
  go_enter Tryd.func38, Tryd.ntmps38
  go_wp2_with fail
  have hb1 : Below w.heap.size w (w.alloc (.cells #[.int .i64 a.Way, .int .i64 a.N, .string a.P, .string a.Q, .slice A4 a.B.length c4, .slice A5 a.Keep.length c5] 72)) := (Below.refl _ _).alloc (Nat.le_refl _) _
  have hbx : (w.alloc (.cells #[.int .i64 a.Way, .int .i64 a.N, .string a.P, .string a.Q, .slice A4 a.B.length c4, .slice A5 a.Keep.length c5] 72)).heap[w.heap.size]? = some (.cells #[.int .i64 a.Way, .int .i64 a.N, .string a.P, .string a.Q, .slice A4 a.B.length c4, .slice A5 a.Keep.length c5] 72 (0, 0)) := heap_alloc_new w _
  have hs1 : w.heap.size < (w.alloc (.cells #[.int .i64 a.Way, .int .i64 a.N, .string a.P, .string a.Q, .slice A4 a.B.length c4, .slice A5 a.Keep.length c5] 72)).heap.size := by simp
  have hP1 := h.below hb1
  have hbF1 : ¬ F w.heap.size := fun hk => by have := h.d.fin _ hk; omega
  have hbF3 : ¬ FR w.heap.size := fun hk => by have := h.rin _ hk; omega
  generalize w.alloc (.cells #[.int .i64 a.Way, .int .i64 a.N, .string a.P, .string a.Q, .slice A4 a.B.length c4, .slice A5 a.Keep.length c5] 72) = w1 at hb1 hbx hs1 hP1 ⊢
  obtain ⟨q0, q1, q2, q3, q4, q5⟩ := box_DAct hbx
  obtain ⟨S, HS⟩ : ∃ S : Foot, Hid (∀ k, S k ↔ F k ∨ FR k) := ⟨_, fun _ => Iff.rfl⟩
  have hSb : ¬ S w.heap.size := fun hk => ((HS.out _).1 hk).elim hbF1 hbF3
  clear hbx
  have hPd := Lib.hid (hP1.below (drawn_below w1 1))
  have hb1d := Lib.hid (hb1.drew)
  obtain ⟨er, her⟩ : ∃ er, Hid ((dfound a.P c).2 = er) := ⟨_, rfl⟩
  have her2 : Hid ((rgot a.P l).2 = er) := ((h.ag.got a.P).1).trans her.out
  have eer : (er == er) = true := by rw [beq_iff_eq]
  clear hP1 hb1 hbF1 hbF3
  refine wp_region_plan [0,0,0,0,0,1,1,0,0,0,0,0,1,1,1] (fun w' => ∃ D : Same S w1, w' = D.world) (by kernel_rfl) (by kernel_rfl) InSame.start ?_
  simp only [sel, selE, Nat.reduceEqDiff, reduceIte]
  repeat (go_big_quiet_step (fail))
  refine wpQuiet_nil ?_
  refine wpE_cons (fun N hN => ?_)
  go_wp2_with fail
  refine (wCut B db a.P a.N w1.drew F room c hPd.out.d (by omega) hi1 hi2).mono ?_
  rintro e w2 ⟨rfl, hd2, hk2⟩
  rw [her.out]
  have hs2 := hk2.size
  rw [World.size_drew] at hs2
  have HC2 : Hid (∀ k, k < w1.heap.size → ¬ S k → w2.heap[k]? = w1.heap[k]?) := fun k hk hn => hk2.block k hk (fun h => hn ((HS.out k).2 (.inl h)))
  have HD2 := Lib.hid (And.intro hd2 hk2)
  clear hd2 hk2
  go_wp2
  refine hN _ _ ⟨⟨w2, HC2.out⟩, rfl⟩ ?_
  clear hN N
  refine wpE_cons (fun N hN => ?_)
  go_wp2_with fail
  refine (num_any _ w2).mono ?_
  rintro e w2' ⟨rfl, rfl⟩
  go_wp2
  refine hN _ _ ⟨⟨w2, HC2.out⟩, rfl⟩ ?_
  clear hN N
  refine wpE_cons (fun N hN => ?_)
  go_wp2_with fail
  obtain ⟨A, cc, hr2⟩ := hPd.out.r2 HD2.out.2
  refine (rcut_any rb a.P a.N w2 FR room l A cc hr2 (by have := hPd.out.ln; omega) (by omega) hi1 hi2).mono ?_
  rintro e w3 ⟨rfl, hr3, hk3⟩
  rw [her2.out]
  have HC3 : Hid (∀ k, k < w1.heap.size → ¬ S k → w3.heap[k]? = w1.heap[k]?) := fun k hk hn => (hk3.block k (by omega) (fun h => hn ((HS.out k).2 (.inr (by have h : k = rb := h; rw [h]; exact hr2.fs))))).trans (HC2.out k hk hn)
  have HR3 := Lib.hid (And.intro hr3 (hk3.mono (T := FR) (fun k _ h => by have h : k = rb := h; rw [h]; exact hr2.fs)))
  clear hr3 hk3 hr2
  go_wp2
  refine hN _ _ ⟨⟨w3, HC3.out⟩, rfl⟩ ?_
  clear hN N
  refine wpE_cons (fun N hN => ?_)
  go_wp2
  refine hN _ _ ⟨⟨w3, HC3.out⟩, rfl⟩ ?_
  clear hN N
  refine wpE_cons (fun N hN => ?_)
  go_wp2
  refine hN _ _ ⟨⟨w3, HC3.out⟩, rfl⟩ ?_
  clear hN N
  refine wpE_nil ?_
  go_wp2
  go_ret
  exact DoP.mk hb1d.out hPd.out HD2.out.1 HD2.out.2 HR3.out.1 HR3.out.2 (hPd.out.ag.cut a.P a.N) (hPd.out.ko.cut a.P a.N) (by have := hPd.out.ln; have := rcutL_len a.P a.N l; omega) (by have := hPd.out.tot; have := tot_cut a.P a.N c; omega)

set_option maxRecDepth 100000 in
set_option maxHeartbeats 4000000 in
theorem do_ren (h : Both B w F FR db rb room n c l) (hn : n ≤ 1000) (ha : a.Small) (hi : IntOk .i64 a.N) (hw : a.Way = 3) :
    Calls Tryd.prog 38 #[.pointer (some ⟨db, 0, none⟩), .pointer (some ⟨rb, 0, none⟩), .agg #[.int .i64 a.Way, .int .i64 a.N, .string a.P, .string a.Q, .slice A4 a.B.length c4, .slice A5 a.Keep.length c5]] w (DoP B w F FR db rb room n) := by
  have e0 : (a.Way == 0) = false := by rw [beq_eq_false_iff_ne]; omega
  have e1 : (a.Way == 1) = false := by rw [beq_eq_false_iff_ne]; omega
  have e2 : (a.Way == 2) = false := by rw [beq_eq_false_iff_ne]; omega
  have e3 : (a.Way == 3) = true := by rw [beq_iff_eq]; exact hw
  obtain ⟨ha1, ha2, ha3, ha4⟩ := ha
  obtain ⟨hi1, hi2⟩ := int_range hi
  clear hw hi
  go_enter Tryd.func38, Tryd.ntmps38
  go_wp2_with fail
  have hb1 : Below w.heap.size w (w.alloc (.cells #[.int .i64 a.Way, .int .i64 a.N, .string a.P, .string a.Q, .slice A4 a.B.length c4, .slice A5 a.Keep.length c5] 72)) := (Below.refl _ _).alloc (Nat.le_refl _) _
  have hbx : (w.alloc (.cells #[.int .i64 a.Way, .int .i64 a.N, .string a.P, .string a.Q, .slice A4 a.B.length c4, .slice A5 a.Keep.length c5] 72)).heap[w.heap.size]? = some (.cells #[.int .i64 a.Way, .int .i64 a.N, .string a.P, .string a.Q, .slice A4 a.B.length c4, .slice A5 a.Keep.length c5] 72 (0, 0)) := heap_alloc_new w _
  have hs1 : w.heap.size < (w.alloc (.cells #[.int .i64 a.Way, .int .i64 a.N, .string a.P, .string a.Q, .slice A4 a.B.length c4, .slice A5 a.Keep.length c5] 72)).heap.size := by simp
  have hP1 := h.below hb1
  have hbF1 : ¬ F w.heap.size := fun hk => by have := h.d.fin _ hk; omega
  have hbF3 : ¬ FR w.heap.size := fun hk => by have := h.rin _ hk; omega
  generalize w.alloc (.cells #[.int .i64 a.Way, .int .i64 a.N, .string a.P, .string a.Q, .slice A4 a.B.length c4, .slice A5 a.Keep.length c5] 72) = w1 at hb1 hbx hs1 hP1 ⊢
  obtain ⟨q0, q1, q2, q3, q4, q5⟩ := box_DAct hbx
  obtain ⟨S, HS⟩ : ∃ S : Foot, Hid (∀ k, S k ↔ F k ∨ FR k) := ⟨_, fun _ => Iff.rfl⟩
  have hSb : ¬ S w.heap.size := fun hk => ((HS.out _).1 hk).elim hbF1 hbF3
  clear hbx
  have hPd := Lib.hid (hP1.below (drawn_below w1 1))
  have hb1d := Lib.hid (hb1.drew)
  obtain ⟨er, her⟩ : ∃ er, Hid (drenE a.P a.Q c = er) := ⟨_, rfl⟩
  have her2 : Hid (rrenE a.P a.Q l = er) := (h.ag.renE a.P a.Q).trans her.out
  have eer : (er == er) = true := by rw [beq_iff_eq]
  clear hP1 hb1 hbF1 hbF3
  refine wp_region_plan [0,0,0,0,0,1,1,0,0,0,0,0,1,1,1] (fun w' => ∃ D : Same S w1, w' = D.world) (by kernel_rfl) (by kernel_rfl) InSame.start ?_
  simp only [sel, selE, Nat.reduceEqDiff, reduceIte]
  repeat (go_big_quiet_step (fail))
  refine wpQuiet_nil ?_
  refine wpE_cons (fun N hN => ?_)
  go_wp2_with fail
  refine (wRename B db a.P a.Q w1.drew F room c hPd.out.d (by omega) (by omega)).mono ?_
  rintro e w2 ⟨rfl, hd2, hk2⟩
  rw [her.out]
  have hs2 := hk2.size
  rw [World.size_drew] at hs2
  have HC2 : Hid (∀ k, k < w1.heap.size → ¬ S k → w2.heap[k]? = w1.heap[k]?) := fun k hk hn => hk2.block k hk (fun h => hn ((HS.out k).2 (.inl h)))
  have HD2 := Lib.hid (And.intro hd2 hk2)
  clear hd2 hk2
  go_wp2
  refine hN _ _ ⟨⟨w2, HC2.out⟩, rfl⟩ ?_
  clear hN N
  refine wpE_cons (fun N hN => ?_)
  go_wp2_with fail
  refine (num_any _ w2).mono ?_
  rintro e w2' ⟨rfl, rfl⟩
  go_wp2
  refine hN _ _ ⟨⟨w2, HC2.out⟩, rfl⟩ ?_
  clear hN N
  refine wpE_cons (fun N hN => ?_)
  go_wp2_with fail
  obtain ⟨A, cc, hr2⟩ := hPd.out.r2 HD2.out.2
  refine (rrename_any rb a.P a.Q w2 FR room l A cc hr2 (by have := hPd.out.ln; omega) (by omega) (by omega)).mono ?_
  rintro e w3 ⟨rfl, hr3, hk3⟩
  rw [her2.out]
  have HC3 : Hid (∀ k, k < w1.heap.size → ¬ S k → w3.heap[k]? = w1.heap[k]?) := fun k hk hn => (hk3.block k (by omega) (fun h => hn ((HS.out k).2 (.inr (by have h : k = rb := h; rw [h]; exact hr2.fs))))).trans (HC2.out k hk hn)
  have HR3 := Lib.hid (And.intro hr3 (hk3.mono (T := FR) (fun k _ h => by have h : k = rb := h; rw [h]; exact hr2.fs)))
  clear hr3 hk3 hr2
  go_wp2
  refine hN _ _ ⟨⟨w3, HC3.out⟩, rfl⟩ ?_
  clear hN N
  refine wpE_cons (fun N hN => ?_)
  go_wp2
  refine hN _ _ ⟨⟨w3, HC3.out⟩, rfl⟩ ?_
  clear hN N
  refine wpE_cons (fun N hN => ?_)
  go_wp2
  refine hN _ _ ⟨⟨w3, HC3.out⟩, rfl⟩ ?_
  clear hN N
  refine wpE_nil ?_
  go_wp2
  go_ret
  exact DoP.mk hb1d.out hPd.out HD2.out.1 HD2.out.2 HR3.out.1 HR3.out.2 (hPd.out.ag.ren a.P a.Q) (hPd.out.ko.ren h.ag.nd a.P a.Q) (by have := hPd.out.ln; have := rrenL_len a.P a.Q l; omega) (by have := hPd.out.tot; have := tot_drenC a.P a.Q c; omega)

set_option maxRecDepth 100000 in
set_option maxHeartbeats 4000000 in
theorem do_rem (h : Both B w F FR db rb room n c l) (hn : n ≤ 1000) (ha : a.Small) (hi : IntOk .i64 a.N) (hw : a.Way = 4) :
    Calls Tryd.prog 38 #[.pointer (some ⟨db, 0, none⟩), .pointer (some ⟨rb, 0, none⟩), .agg #[.int .i64 a.Way, .int .i64 a.N, .string a.P, .string a.Q, .slice A4 a.B.length c4, .slice A5 a.Keep.length c5]] w (DoP B w F FR db rb room n) := by
  have e0 : (a.Way == 0) = false := by rw [beq_eq_false_iff_ne]; omega
  have e1 : (a.Way == 1) = false := by rw [beq_eq_false_iff_ne]; omega
  have e2 : (a.Way == 2) = false := by rw [beq_eq_false_iff_ne]; omega
  have e3 : (a.Way == 3) = false := by rw [beq_eq_false_iff_ne]; omega
  have e4 : (a.Way == 4) = true := by rw [beq_iff_eq]; exact hw
  obtain ⟨ha1, ha2, ha3, ha4⟩ := ha
  obtain ⟨hi1, hi2⟩ := int_range hi
  clear hw hi
  go_enter Tryd.func38, Tryd.ntmps38
  go_wp2_with fail
  have hb1 : Below w.heap.size w (w.alloc (.cells #[.int .i64 a.Way, .int .i64 a.N, .string a.P, .string a.Q, .slice A4 a.B.length c4, .slice A5 a.Keep.length c5] 72)) := (Below.refl _ _).alloc (Nat.le_refl _) _
  have hbx : (w.alloc (.cells #[.int .i64 a.Way, .int .i64 a.N, .string a.P, .string a.Q, .slice A4 a.B.length c4, .slice A5 a.Keep.length c5] 72)).heap[w.heap.size]? = some (.cells #[.int .i64 a.Way, .int .i64 a.N, .string a.P, .string a.Q, .slice A4 a.B.length c4, .slice A5 a.Keep.length c5] 72 (0, 0)) := heap_alloc_new w _
  have hs1 : w.heap.size < (w.alloc (.cells #[.int .i64 a.Way, .int .i64 a.N, .string a.P, .string a.Q, .slice A4 a.B.length c4, .slice A5 a.Keep.length c5] 72)).heap.size := by simp
  have hP1 := h.below hb1
  have hbF1 : ¬ F w.heap.size := fun hk => by have := h.d.fin _ hk; omega
  have hbF3 : ¬ FR w.heap.size := fun hk => by have := h.rin _ hk; omega
  generalize w.alloc (.cells #[.int .i64 a.Way, .int .i64 a.N, .string a.P, .string a.Q, .slice A4 a.B.length c4, .slice A5 a.Keep.length c5] 72) = w1 at hb1 hbx hs1 hP1 ⊢
  obtain ⟨q0, q1, q2, q3, q4, q5⟩ := box_DAct hbx
  obtain ⟨S, HS⟩ : ∃ S : Foot, Hid (∀ k, S k ↔ F k ∨ FR k) := ⟨_, fun _ => Iff.rfl⟩
  have hSb : ¬ S w.heap.size := fun hk => ((HS.out _).1 hk).elim hbF1 hbF3
  clear hbx
  have hPd := Lib.hid (hP1.below (drawn_below w1 1))
  have hb1d := Lib.hid (hb1.drew)
  obtain ⟨er, her⟩ : ∃ er, Hid ((dfound a.P c).2 = er) := ⟨_, rfl⟩
  have her2 : Hid ((rgot a.P l).2 = er) := ((h.ag.got a.P).1).trans her.out
  have eer : (er == er) = true := by rw [beq_iff_eq]
  clear hP1 hb1 hbF1 hbF3
  refine wp_region_plan [0,0,0,1,1,0,0,0,1,1,1] (fun w' => ∃ D : Same S w1, w' = D.world) (by kernel_rfl) (by kernel_rfl) InSame.start ?_
  simp only [sel, selE, Nat.reduceEqDiff, reduceIte]
  repeat (go_big_quiet_step (fail))
  refine wpQuiet_nil ?_
  refine wpE_cons (fun N hN => ?_)
  go_wp2_with fail
  refine (wRemove B db a.P w1.drew F room c hPd.out.d (by omega)).mono ?_
  rintro e w2 ⟨rfl, hd2, hk2⟩
  rw [her.out]
  have hs2 := hk2.size
  rw [World.size_drew] at hs2
  have HC2 : Hid (∀ k, k < w1.heap.size → ¬ S k → w2.heap[k]? = w1.heap[k]?) := fun k hk hn => hk2.block k hk (fun h => hn ((HS.out k).2 (.inl h)))
  have HD2 := Lib.hid (And.intro hd2 hk2)
  clear hd2 hk2
  go_wp2
  refine hN _ _ ⟨⟨w2, HC2.out⟩, rfl⟩ ?_
  clear hN N
  refine wpE_cons (fun N hN => ?_)
  go_wp2_with fail
  refine (num_any _ w2).mono ?_
  rintro e w2' ⟨rfl, rfl⟩
  go_wp2
  refine hN _ _ ⟨⟨w2, HC2.out⟩, rfl⟩ ?_
  clear hN N
  refine wpE_cons (fun N hN => ?_)
  go_wp2_with fail
  obtain ⟨A, cc, hr2⟩ := hPd.out.r2 HD2.out.2
  refine (rremove_any rb a.P w2 FR room l A cc hr2 (by have := hPd.out.ln; omega) (by omega)).mono ?_
  rintro e w3 ⟨rfl, hr3, hk3⟩
  rw [her2.out]
  have HC3 : Hid (∀ k, k < w1.heap.size → ¬ S k → w3.heap[k]? = w1.heap[k]?) := fun k hk hn => (hk3.block k (by omega) (fun h => hn ((HS.out k).2 (.inr (by have h : k = rb := h; rw [h]; exact hr2.fs))))).trans (HC2.out k hk hn)
  have HR3 := Lib.hid (And.intro hr3 (hk3.mono (T := FR) (fun k _ h => by have h : k = rb := h; rw [h]; exact hr2.fs)))
  clear hr3 hk3 hr2
  go_wp2
  refine hN _ _ ⟨⟨w3, HC3.out⟩, rfl⟩ ?_
  clear hN N
  refine wpE_cons (fun N hN => ?_)
  go_wp2
  refine hN _ _ ⟨⟨w3, HC3.out⟩, rfl⟩ ?_
  clear hN N
  refine wpE_cons (fun N hN => ?_)
  go_wp2
  refine hN _ _ ⟨⟨w3, HC3.out⟩, rfl⟩ ?_
  clear hN N
  refine wpE_nil ?_
  go_wp2
  go_ret
  exact DoP.mk hb1d.out hPd.out HD2.out.1 HD2.out.2 HR3.out.1 HR3.out.2 (hPd.out.ag.rem a.P) (hPd.out.ko.rem h.ag.nd a.P) (by have := hPd.out.ln; have := rremL_len a.P l; omega) (by have := hPd.out.tot; have := tot_rem a.P c; omega)
end
end Go.Proofs.YtfjndjbpgcggkaaDoor
