/- raft.add. -/
import Derived.Test.YtikpbhhnllchmaaRF6
set_option linter.unusedVariables false
set_option linter.unusedSimpArgs false
namespace Go.Proofs.Ytikpbhhnllchmaa
open Go.RowKit
attribute [local go_sem] Same.cell Same.frozen

theorem send_any (w : World) (rb : Nat) (F : Foot) (s : RaftS) (id : Nat) (nx : Int) (h : RaftAt w rb F s) (ok : s.Ok) (hnx : s.next[id]? = some nx) (h1 : 1 ≤ nx) (h2 : nx ≤ 2305843009213693952) (hsn : s.snap.length ≤ 1000000000000) (hid : id ≤ 1000) :
    Calls Try.prog 25 #[.pointer (some ⟨rb, 0, none⟩), .int .i64 id] w (MsgPost w (sendM s id nx)) := by
  by_cases hle : nx ≤ s.log.base
  · exact send_snap w rb F s id nx h ok hnx h1 h2 hsn hid hle
  · exact send_some w rb F s id nx h ok hnx h1 h2 hsn hid hle
/-- What is to be sent to each node is known. -/
structure RaftS.Lead (s : RaftS) : Prop where
  nlen : (s.next.length : Int) = s.n + 1
  mlen : (s.mat.length : Int) = s.n + 1
  nx : ∀ (id : Nat) (x : Int), s.next[id]? = some x → 1 ≤ x ∧ x ≤ 2305843009213693952
  snap : s.snap.length ≤ 1000000000000
def MsgsStep (w : World) (rb : Nat) (F : Foot) (s' : RaftS) (e : Ending) (w' : World) : Prop := ∃ v ms, e = .returned v ∧ OwnS kMessage 34 w' (New w w') v ms ∧ RStep w rb F s' w'
theorem sendAll_any (w : World) (rb : Nat) (F : Foot) (s : RaftS) (h : RaftAt w rb F s) (ok : s.Ok) (hl : s.Lead) :
    Calls Try.prog 24 #[.pointer (some ⟨rb, 0, none⟩), .func (.func 25) #[.pointer (some ⟨rb, 0, none⟩)] #[]] w (MsgsPost w) := by
  refine all_any 25 #[.pointer (some ⟨rb, 0, none⟩)] #[] (fun _ _ => by kernel_rfl) w rb F s h ok fun id w1 hb h1 h2 h3 => ?_
  obtain ⟨i, rfl⟩ := Int.eq_ofNat_of_zero_le (show 0 ≤ id by omega)
  have hlen := hl.nlen
  have hn7 := ok.n7
  obtain ⟨nx, hnx⟩ : ∃ nx, s.next[i]? = some nx := ⟨_, List.getElem?_eq_getElem (by omega)⟩
  obtain ⟨b1, b2⟩ := hl.nx i nx hnx
  exact (send_any w1 rb F s i nx (h.below hb) ok hnx b1 b2 hl.snap (by omega)).mono fun e w' he => ⟨_, he⟩
def RaftS.addS (s : RaftS) (c : Command) : RaftS := RaftS.commitS { s with log := s.log.add ⟨s.term, c⟩ }
theorem RaftS.commitS_or (s : RaftS) : s.commitS = s ∨ s.commitS = { s with commit := s.commitI } := by
  unfold RaftS.commitS
  split
  · exact .inr rfl
  · exact .inl rfl
theorem LogS.Ok.add {s : LogS} (ok : s.Ok) (x : Entry) (hl : s.l.length < 1000000000) (hx : x.Cmd.Records.length ≤ 1000000000) : (s.add x).Ok :=
  ⟨ok.b0, ok.b1, by simp [LogS.add]; omega, fun y hy => by
    rcases List.mem_append.1 hy with hy | hy
    · exact ok.r1 y hy
    · simp at hy; subst hy; omega⟩

set_option maxHeartbeats 8000000 in
set_option maxRecDepth 100000 in
theorem add_any (w : World) (rb : Nat) (F G : Foot) (s : RaftS) (c : Command) (A3 : Option Addr) (c3 : Nat) (h : RaftAt w rb F s) (ok : s.Ok) (hl : s.Lead) (hll : s.log.l.length < 1000000000)
    (l3 : c.Records.length ≤ c3) (m3 : c3 ≤ 9223372036854775807) (r3 : RS kRecord w G A3 c.Records.length c.Records) (hx : c.Records.length ≤ 1000000000) :
    Calls Try.prog 44 #[.pointer (some ⟨rb, 0, none⟩), .agg #[.int .i64 c.Kind, .int .i64 c.Pid, .int .i64 c.Seq, .slice A3 c.Records.length c3, .string c.Group, .int .i64 c.Offset, .int .i64 c.Max, .int .i64 c.Now, .int .u32 c.Sum, .int .i64 c.Conf.Segment, .int .i64 c.Conf.Keep, .int .i64 c.Conf.Age, .int .i64 c.Conf.Grace]] w (MsgsStep w rb F (s.addS c)) := by
  have Hok := Lib.hid (And.intro ok hl)
  have hbw : Below w.heap.size w (w.alloc (.cells #[.int .i64 c.Kind, .int .i64 c.Pid, .int .i64 c.Seq, .slice A3 c.Records.length c3, .string c.Group, .int .i64 c.Offset, .int .i64 c.Max, .int .i64 c.Now, .int .u32 c.Sum, .int .i64 c.Conf.Segment, .int .i64 c.Conf.Keep, .int .i64 c.Conf.Age, .int .i64 c.Conf.Grace] 41)) := (Below.refl _ _).alloc (Nat.le_refl _) _
  have hcw := heap_alloc_new w (.cells #[.int .i64 c.Kind, .int .i64 c.Pid, .int .i64 c.Seq, .slice A3 c.Records.length c3, .string c.Group, .int .i64 c.Offset, .int .i64 c.Max, .int .i64 c.Now, .int .u32 c.Sum, .int .i64 c.Conf.Segment, .int .i64 c.Conf.Keep, .int .i64 c.Conf.Age, .int .i64 c.Conf.Grace] 41)
  have hlw : w.heap.size < (w.alloc (.cells #[.int .i64 c.Kind, .int .i64 c.Pid, .int .i64 c.Seq, .slice A3 c.Records.length c3, .string c.Group, .int .i64 c.Offset, .int .i64 c.Max, .int .i64 c.Now, .int .u32 c.Sum, .int .i64 c.Conf.Segment, .int .i64 c.Conf.Keep, .int .i64 c.Conf.Age, .int .i64 c.Conf.Grace] 41)).heap.size := by simp
  have hrw := r3.below hbw
  clear ok hl r3
  obtain ⟨lb, p, As, cs, vy, vn, vm, hR0, hF⟩ := h
  have hR := hR0.below hbw
  have hNF2 : ¬ p 1 w.heap.size := fun h => by have := hR0.lt 1 _ h; omega
  clear hR0
  obtain ⟨c0, c1, c2, d3, d4, c5, c6, c7, c8, c9, c10, c11, c12, c13, -, hlt⟩ := hR.facts
  have hm1 : ∀ (fn : Fn) (first cap : Array Value) (w : World), (Instr.makeFunc fn first cap).run Try.prog w = .ok (.func fn first cap) w := fun _ _ _ _ => rfl
  obtain ⟨q0, q1, q2, q3, q4, q5, q6, q7, q8, q9, q10, q11, q12⟩ := box_Command hcw
  clear hcw
  go_enter Try.func44, Try.ntmps44
  go_wp2_with fail
  generalize w.alloc (.cells #[.int .i64 c.Kind, .int .i64 c.Pid, .int .i64 c.Seq, .slice A3 c.Records.length c3, .string c.Group, .int .i64 c.Offset, .int .i64 c.Max, .int .i64 c.Now, .int .u32 c.Sum, .int .i64 c.Conf.Segment, .int .i64 c.Conf.Keep, .int .i64 c.Conf.Age, .int .i64 c.Conf.Grace] 41) = w1 at hbw hlw hrw hR c0 c1 c2 d3 d4 c5 c6 c7 c8 c9 c10 c11 c12 c13 hlt q0 q1 q2 q3 q4 q5 q6 q7 q8 q9 q10 q11 q12 ⊢
  have hNF : ¬ p 1 rb := fun h => by have := hR.dis 1 0 rb h hR.p0; omega
  clear d3 d4 c5 c6 c7 c8 c10 c11 c12 c13 c0 c1
  have HA := Lib.hid (Add_any lb _ G s.log ⟨s.term, c⟩ A3 c3 w1.drew hR.log.drew Hok.out.1.log hll l3 m3 hrw.drew hx)
  refine wp_region_plan [0, 0, 0, 0, 0, 0, 0, 0, 0, 0, 1, 1] (fun w' => ∃ D : Same (p 1) w1, w' = D.world) (by kernel_rfl) (by decide +kernel) InSame.start ?_
  simp only [sel, selE, Nat.reduceEqDiff, reduceIte]
  repeat (go_big_quiet_step (fail))
  refine wpQuiet_nil ?_
  refine wpE_cons (fun N hN => ?_)
  go_wp2
  refine hN _ _ InSame.start ?_
  refine wpE_cons (fun N2 hN2 => ?_)
  clear hN N
  go_wp2_with fail
  refine HA.out.mono ?_
  rintro e w2 ⟨rfl, hL2, hk2⟩
  have hk2' : Keeps (p 1) w1 w2 := ⟨hk2.os, hk2.tape, hk2.output, hk2.size, hk2.block⟩
  have hR2 := hR.log' hk2' hL2
  have HR2 := Lib.hid (And.intro hR2 hk2')
  clear hL2 hk2 hk2' hR2 HA
  go_wp2
  refine hN2 _ _ (InSame.of_keeps HR2.out.2) ?_
  refine wpE_nil ?_
  clear hN2 N2
  have hs2 := HR2.out.2.size
  have hst1 : RStep w rb F { s with log := s.log.add ⟨s.term, c⟩ } w2 := by
    refine ⟨⟨lb, _, As, cs, vy, vn, vm, HR2.out.1, ?_⟩, (Keeps.of_below hbw F).trans (HR2.out.2.mono fun k _ hk => hF 1 k hk)⟩
    refine repart_all (fun i k hk => .inl (hF i k hk)) fun k hk => ?_
    rcases hk with hk | hk
    · exact .inl (hF 1 k hk)
    · exact .inr ⟨by have := hk.1; have := hbw.size; omega, hk.2⟩
  have ok1 : RaftS.Ok { s with log := s.log.add ⟨s.term, c⟩ } := ⟨Hok.out.1.i1, Hok.out.1.i2, Hok.out.1.n7, Hok.out.1.t0, Hok.out.1.t1, Hok.out.1.k0, Hok.out.1.k1, Hok.out.1.log.add _ hll hx⟩
  have HC := Lib.hid (commit_any w2 rb _ _ hst1.at_ ok1 Hok.out.2.mlen)
  have Hst1 := Lib.hid (And.intro hst1 ok1)
  clear hst1 ok1 c2 c9 hR hrw q0 q1 q2 q3 q4 q5 q6 q7 q8 q9 q10 q11 q12
  go_wp2_with fail
  refine HC.out.mono ?_
  rintro e w3 ⟨rfl, hst2⟩
  have hst3 : RStep w rb F (s.addS c) w3 := Hst1.out.1.trans hst2
  have hor := RaftS.commitS_or { s with log := s.log.add ⟨s.term, c⟩ }
  have ok3 : (s.addS c).Ok ∧ (s.addS c).Lead := by
    unfold RaftS.addS
    obtain ⟨o1, o2, o3, o4, o5, o6, o7, o8⟩ := Hst1.out.2
    obtain ⟨u1, u2, u3, u4⟩ := Hok.out.2
    rcases hor with he | he <;> rw [he] <;> exact ⟨⟨o1, o2, o3, o4, o5, o6, o7, o8⟩, ⟨u1, u2, u3, u4⟩⟩
  have HS := Lib.hid (sendAll_any w3 rb _ _ hst3.at_ ok3.1 ok3.2)
  have Hst3 := Lib.hid hst3
  clear hst2 hst3 hor ok3 HC
  go_wp2_with fail
  refine HS.out.mono ?_
  rintro e w4 ⟨v, ms, rfl, hO, hb⟩
  have hs3 := Hst3.out.size
  have HO := Lib.hid (And.intro hO hb)
  clear hO hb
  go_wp2
  go_ret
  exact ⟨v, ms, rfl, HO.out.1.mono fun k hk => ⟨by have := hk.1; omega, hk.2⟩, Hst3.out.thenBelow HO.out.2⟩
end Go.Proofs.Ytikpbhhnllchmaa
