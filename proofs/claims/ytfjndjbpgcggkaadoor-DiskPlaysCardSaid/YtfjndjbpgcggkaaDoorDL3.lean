/- The law DiskPlays: one call by both: Append, Crash, nothing. -/
import Derived.Test.YtfjndjbpgcggkaaDoorDL2
import Derived.Test.YtfjndjbpgcggkaaDoorX
set_option linter.unusedVariables false
set_option linter.unusedSimpArgs false
namespace Go.Proofs.YtfjndjbpgcggkaaDoor
open Go.RowKit
attribute [local go_sem] Same.cell Same.frozen

theorem DW.mono {B db : Nat} {W : World} {F G : Foot} {room : Int} {c : FObjs} (h : DW B W F db room c) (hG : ∀ k, F k → G k) (hB : ∀ k, G k → B ≤ k) (hi : ∀ k, G k → k < W.heap.size) : DW B W G db room c :=
  ⟨h.at_.mono hG, h.env, hB, hi, h.ok⟩

section
variable {B db rb n : Nat} {w : World} {F FR G : Foot} {room : Int} {c : FObjs} {l : List RFile} {a : DAct}

set_option maxRecDepth 100000 in
set_option maxHeartbeats 4000000 in
theorem do_crash (A4 : Option Addr) (c4 : Nat) (A5 : Option Addr) (c5 : Nat) (h : Both B w F FR db rb room n c l) (hn : n ≤ 1000) (ha : a.Small) (l5 : a.Keep.length ≤ c5) (m5 : c5 ≤ 9223372036854775807) (r5 : RS (kInt .i64) w G A5 a.Keep.length a.Keep) (hG : ∀ k, G k → k < B) (hw : a.Way = 5) :
    Calls Tryd.prog 38 #[.pointer (some ⟨db, 0, none⟩), .pointer (some ⟨rb, 0, none⟩), .agg #[.int .i64 a.Way, .int .i64 a.N, .string a.P, .string a.Q, .slice A4 a.B.length c4, .slice A5 a.Keep.length c5]] w (DoP B w F FR db rb room n) := by
  have e0 : (a.Way == 0) = false := by rw [beq_eq_false_iff_ne]; omega
  have e1 : (a.Way == 1) = false := by rw [beq_eq_false_iff_ne]; omega
  have e2 : (a.Way == 2) = false := by rw [beq_eq_false_iff_ne]; omega
  have e3 : (a.Way == 3) = false := by rw [beq_eq_false_iff_ne]; omega
  have e4 : (a.Way == 4) = false := by rw [beq_eq_false_iff_ne]; omega
  have e5 : (a.Way == 5) = true := by rw [beq_iff_eq]; exact hw
  obtain ⟨ha1, ha2, ha3, ha4⟩ := ha
  clear hw
  go_enter Tryd.func38, Tryd.ntmps38
  go_wp2_with fail
  have hb1 : Below w.heap.size w (w.alloc (.cells #[.int .i64 a.Way, .int .i64 a.N, .string a.P, .string a.Q, .slice A4 a.B.length c4, .slice A5 a.Keep.length c5] 72)) := (Below.refl _ _).alloc (Nat.le_refl _) _
  have hbx : (w.alloc (.cells #[.int .i64 a.Way, .int .i64 a.N, .string a.P, .string a.Q, .slice A4 a.B.length c4, .slice A5 a.Keep.length c5] 72)).heap[w.heap.size]? = some (.cells #[.int .i64 a.Way, .int .i64 a.N, .string a.P, .string a.Q, .slice A4 a.B.length c4, .slice A5 a.Keep.length c5] 72 (0, 0)) := heap_alloc_new w _
  have hs1 : w.heap.size < (w.alloc (.cells #[.int .i64 a.Way, .int .i64 a.N, .string a.P, .string a.Q, .slice A4 a.B.length c4, .slice A5 a.Keep.length c5] 72)).heap.size := by simp
  have hP1 := Lib.hid (h.below hb1)
  have hbF1 : ¬ F w.heap.size := fun hk => by have := h.d.fin _ hk; omega
  have r51 := r5.below hb1
  generalize w.alloc (.cells #[.int .i64 a.Way, .int .i64 a.N, .string a.P, .string a.Q, .slice A4 a.B.length c4, .slice A5 a.Keep.length c5] 72) = w1 at hb1 hbx hs1 hP1 r51 ⊢
  have Hb1 := Lib.hid hb1
  clear hb1
  refine (wCrash B db A5 a.Keep.length c5 a.Keep w1 F G room c hP1.out.d (by rw [← hP1.out.ag.len]; have := hP1.out.ln; omega) r51 ⟨l5, m5⟩ (fun k hk hF => by have := hG k hk; have := hP1.out.d.fb k hF; omega)).mono ?_
  rintro e w2 ⟨rfl, hd2, hk2⟩
  have hs2 := hk2.size
  have hbx2 : w2.heap[w.heap.size]? = some (.cells #[.int .i64 a.Way, .int .i64 a.N, .string a.P, .string a.Q, .slice A4 a.B.length c4, .slice A5 a.Keep.length c5] 72 (0, 0)) := (hk2.block _ hs1 hbF1).trans hbx
  have r52 := r51.keep fun k hk hl => hk2.block k hl fun hF => by have := hG k hk; have := hP1.out.d.fb k hF; omega
  obtain ⟨q0, q1, q2, q3, q4, q5⟩ := box_DAct hbx2
  obtain ⟨A, cc, hr2⟩ := hP1.out.r2 hk2
  have HD2 := Lib.hid (And.intro hd2 (And.intro hk2 (And.intro hr2 r52)))
  clear hd2 hk2 hr2 r52 hbx hbx2
  go_wp2_with fail
  refine (rcrash_any rb A5 a.Keep.length c5 a.Keep w2 FR G room l A cc HD2.out.2.2.1 (fun k hk => by have := hP1.out.rin k hk; omega) (by have := hP1.out.ln; omega) hP1.out.lo (fun k hk hF => by have := hG k hk; have := hP1.out.rB k hF; omega) HD2.out.2.2.2 (by omega)).mono ?_
  rintro e w3 ⟨rfl, hr3, hk3⟩
  have HR3 := Lib.hid (And.intro hr3 hk3)
  clear hr3 hk3
  go_wp2
  go_ret
  exact DoP.mk Hb1.out hP1.out HD2.out.1 HD2.out.2.1 HR3.out.1 HR3.out.2 (hP1.out.ag.crash a.Keep) (KeysOk.crashGo (ks := []) _ _ _ hP1.out.ko) (by rw [rcrash_len]; have := hP1.out.ln; omega) (by have := hP1.out.tot; have := tot_crashGo (dkeys c) c a.Keep; unfold crash; omega)

set_option maxRecDepth 100000 in
set_option maxHeartbeats 4000000 in
theorem do_none (A4 : Option Addr) (c4 : Nat) (A5 : Option Addr) (c5 : Nat) (h : Both B w F FR db rb room n c l) (hw : a.Way ≠ 0 ∧ a.Way ≠ 1 ∧ a.Way ≠ 2 ∧ a.Way ≠ 3 ∧ a.Way ≠ 4 ∧ a.Way ≠ 5) :
    Calls Tryd.prog 38 #[.pointer (some ⟨db, 0, none⟩), .pointer (some ⟨rb, 0, none⟩), .agg #[.int .i64 a.Way, .int .i64 a.N, .string a.P, .string a.Q, .slice A4 a.B.length c4, .slice A5 a.Keep.length c5]] w (DoP B w F FR db rb room n) := by
  obtain ⟨h0, h1, h2, h3, h4, h5⟩ := hw
  have e0 : (a.Way == 0) = false := by rw [beq_eq_false_iff_ne]; exact h0
  have e1 : (a.Way == 1) = false := by rw [beq_eq_false_iff_ne]; exact h1
  have e2 : (a.Way == 2) = false := by rw [beq_eq_false_iff_ne]; exact h2
  have e3 : (a.Way == 3) = false := by rw [beq_eq_false_iff_ne]; exact h3
  have e4 : (a.Way == 4) = false := by rw [beq_eq_false_iff_ne]; exact h4
  have e5 : (a.Way == 5) = false := by rw [beq_eq_false_iff_ne]; exact h5
  clear h0 h1 h2 h3 h4 h5
  go_enter Tryd.func38, Tryd.ntmps38
  go_wp2
  go_ret
  have hb1 : Below w.heap.size w (w.alloc (.cells #[.int .i64 a.Way, .int .i64 a.N, .string a.P, .string a.Q, .slice A4 a.B.length c4, .slice A5 a.Keep.length c5] 72)) := (Below.refl _ _).alloc (Nat.le_refl _) _
  exact ⟨rfl, F, FR, c, l, (h.below hb1).le (Nat.le_succ n), fun k hk => .inl hk, fun k hk => .inl hk, Keeps.of_below hb1 _⟩
end
end Go.Proofs.YtfjndjbpgcggkaaDoor
