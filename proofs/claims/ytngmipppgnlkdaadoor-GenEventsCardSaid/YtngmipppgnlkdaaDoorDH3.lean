/- Same at two equal commands; Right at a request's. -/
import Derived.Test.YtngmipppgnlkdaaDoorDH2
import Derived.Test.YtngmipppgnlkdaaDoorTQ
import Derived.Deep.QuietTactic
import Derived.BigQuiet
import Derived.Deep.RegionHeld3
import Derived.Deep.DrawnRows
set_option linter.unusedVariables false
set_option linter.unusedSimpArgs false
namespace Go.Proofs.YtngmipppgnlkdaaDoor
open Go.RowKit

/-- A bool that tells whether p. -/
def Tells (p : Prop) (w : World) (e : Ending) (w' : World) : Prop := ∃ r : Bool, e = .returned (.bool r) ∧ (r = true ↔ p) ∧ Below w.heap.size w w'

set_option maxHeartbeats 1000000 in
theorem SameRecords_any (A B : Option Addr) (n m c d : Nat) (xs ys : List Record) (F G : Foot) (w : World) (hx : RS kRecord w F A n xs) (hy : RS kRecord w G B m ys) (hn : n ≤ 140737488355328) (hm : m ≤ 140737488355328) :
    Calls Tryd.prog 37 #[.slice A n c, .slice B m d] w (Tells (xs = ys) w) := by
  obtain rfl := hx.length
  obtain rfl := hy.length
  by_cases hl : xs.length = ys.length
  · go_enter Tryd.func37, Tryd.ntmps37
    go_wp2
    go_loopw [5] (fun q wr => ∃ k : Nat, q = .int .i64 k ∧ k ≤ xs.length ∧ Hid (xs.take k = ys.take k) ∧ Below w.heap.size w wr) (fun q _ => xs.length - (intOf q).toNat)
    case atStart => exact ⟨0, rfl, Nat.zero_le _, rfl, Below.refl _ _⟩
    case round =>
      obtain ⟨k, rfl, hk, hE, hB⟩ := hrel
      by_cases hlt : k < xs.length
      · obtain ⟨x, hxk⟩ : ∃ x, xs[k]? = some x := ⟨_, List.getElem?_eq_getElem hlt⟩
        obtain ⟨y, hyk⟩ : ∃ y, ys[k]? = some y := ⟨_, List.getElem?_eq_getElem (by omega)⟩
        obtain ⟨ad, hA0, hFa, k0, k1, k2, k3, k4⟩ := at_Record (hx.below hB) hxk
        obtain ⟨bd, hB0, hFb, l0, l1, l2, l3, l4⟩ := at_Record (hy.below hB) hyk
        have HA0 := Lib.hid hA0
        have HB0 := Lib.hid hB0
        rw [hA0, hB0]
        clear hA0 hB0
        have hlt2 : k < ys.length := by omega
        clear hl
        obtain ⟨r, hr, _, hneq⟩ := eq_Record x y
        have hgd := guard_Record
        have Hr := Lib.hid hr
        clear hr
        cases r
        · go_wp2
          go_quiet (fail)
          go_wp2
          go_ret
          refine ⟨false, rfl, ?_, hB.trans ((drawn_below wr nq).mono hB.size)⟩
          simp only [Bool.false_eq_true, false_iff]
          intro he
          have := Hr.out
          rw [he, hyk] at hxk
          injection hxk with hxk
          simp [hxk] at this
        · go_wp2
          go_quiet (fail)
          go_wp2
          go_roundw
          case rel =>
            refine ⟨k + 1, by go_num, by omega, ?_, hB.trans ((drawn_below wr nq).mono hB.size)⟩
            have he := hE.out
            show xs.take (k + 1) = ys.take (k + 1)
            rw [List.take_add_one, List.take_add_one, he, hxk, hyk, show x = y from by simpa using Hr.out]
          case measure => simp [intOf]; omega
      · obtain rfl : k = xs.length := by omega
        go_wp2
        go_ret
        refine ⟨true, rfl, ?_, hB⟩
        simp only [true_iff]
        have he := hE.out
        rw [List.take_of_length_le (Nat.le_refl _), List.take_of_length_le (by omega)] at he
        exact he
  · have hne : xs ≠ ys := fun h => hl (by rw [h])
    have hlb : ((xs.length : Int) != (ys.length : Int)) = true := by rw [bne_iff_ne]; omega
    go_enter Tryd.func37, Tryd.ntmps37
    go_wp2
    go_ret
    exact ⟨false, rfl, by simp [hne], Below.refl _ _⟩

set_option maxHeartbeats 4000000 in
theorem Same_self (a : Command) (pA3 qA3 : Option Addr) (pc3 qc3 : Nat) (F G : Foot) (w : World) (hx : RS kRecord w F pA3 a.Records.length a.Records) (hy : RS kRecord w G qA3 a.Records.length a.Records)
    (hn : a.Records.length ≤ 140737488355328) :
    Calls Tryd.prog 22 #[.agg #[.int .i64 a.Kind, .int .i64 a.Pid, .int .i64 a.Seq, .slice pA3 a.Records.length pc3, .string a.Group, .int .i64 a.Offset, .int .i64 a.Max, .int .i64 a.Now, .int .u32 a.Sum, .int .i64 a.Conf.Segment, .int .i64 a.Conf.Keep, .int .i64 a.Conf.Age, .int .i64 a.Conf.Grace], .agg #[.int .i64 a.Kind, .int .i64 a.Pid, .int .i64 a.Seq, .slice qA3 a.Records.length qc3, .string a.Group, .int .i64 a.Offset, .int .i64 a.Max, .int .i64 a.Now, .int .u32 a.Sum, .int .i64 a.Conf.Segment, .int .i64 a.Conf.Keep, .int .i64 a.Conf.Age, .int .i64 a.Conf.Grace]] w fun e w' => e = .returned (.bool true) ∧ Below w.heap.size w w' := by
  have hx2 := (hx.alloc (.cells #[.int .i64 a.Kind, .int .i64 a.Pid, .int .i64 a.Seq, .slice pA3 a.Records.length pc3, .string a.Group, .int .i64 a.Offset, .int .i64 a.Max, .int .i64 a.Now, .int .u32 a.Sum, .int .i64 a.Conf.Segment, .int .i64 a.Conf.Keep, .int .i64 a.Conf.Age, .int .i64 a.Conf.Grace] 50)).alloc (.cells #[.int .i64 a.Kind, .int .i64 a.Pid, .int .i64 a.Seq, .slice qA3 a.Records.length qc3, .string a.Group, .int .i64 a.Offset, .int .i64 a.Max, .int .i64 a.Now, .int .u32 a.Sum, .int .i64 a.Conf.Segment, .int .i64 a.Conf.Keep, .int .i64 a.Conf.Age, .int .i64 a.Conf.Grace] 50)
  have hy2 := (hy.alloc (.cells #[.int .i64 a.Kind, .int .i64 a.Pid, .int .i64 a.Seq, .slice pA3 a.Records.length pc3, .string a.Group, .int .i64 a.Offset, .int .i64 a.Max, .int .i64 a.Now, .int .u32 a.Sum, .int .i64 a.Conf.Segment, .int .i64 a.Conf.Keep, .int .i64 a.Conf.Age, .int .i64 a.Conf.Grace] 50)).alloc (.cells #[.int .i64 a.Kind, .int .i64 a.Pid, .int .i64 a.Seq, .slice qA3 a.Records.length qc3, .string a.Group, .int .i64 a.Offset, .int .i64 a.Max, .int .i64 a.Now, .int .u32 a.Sum, .int .i64 a.Conf.Segment, .int .i64 a.Conf.Keep, .int .i64 a.Conf.Age, .int .i64 a.Conf.Grace] 50)
  have hgd := guard_Conf
  obtain ⟨r9, hr9, hq9, _⟩ := eq_Conf a.Conf a.Conf
  obtain rfl : r9 = true := hr9.2 rfl
  clear hr9
  go_enter Tryd.func22, Tryd.ntmps22
  go_wp2_with fail
  refine (SameRecords_any _ _ _ _ _ _ _ _ _ _ _ hx2 hy2 hn hn).mono ?_
  rintro e w2 ⟨r, rfl, hr, hb⟩
  obtain rfl : r = true := hr.2 rfl
  clear hr
  have hs1 : w.heap.size < ((w.alloc (.cells #[.int .i64 a.Kind, .int .i64 a.Pid, .int .i64 a.Seq, .slice pA3 a.Records.length pc3, .string a.Group, .int .i64 a.Offset, .int .i64 a.Max, .int .i64 a.Now, .int .u32 a.Sum, .int .i64 a.Conf.Segment, .int .i64 a.Conf.Keep, .int .i64 a.Conf.Age, .int .i64 a.Conf.Grace] 50)).alloc (.cells #[.int .i64 a.Kind, .int .i64 a.Pid, .int .i64 a.Seq, .slice qA3 a.Records.length qc3, .string a.Group, .int .i64 a.Offset, .int .i64 a.Max, .int .i64 a.Now, .int .u32 a.Sum, .int .i64 a.Conf.Segment, .int .i64 a.Conf.Keep, .int .i64 a.Conf.Age, .int .i64 a.Conf.Grace] 50)).heap.size := by simp; omega
  have hs2 : w.heap.size + 1 < ((w.alloc (.cells #[.int .i64 a.Kind, .int .i64 a.Pid, .int .i64 a.Seq, .slice pA3 a.Records.length pc3, .string a.Group, .int .i64 a.Offset, .int .i64 a.Max, .int .i64 a.Now, .int .u32 a.Sum, .int .i64 a.Conf.Segment, .int .i64 a.Conf.Keep, .int .i64 a.Conf.Age, .int .i64 a.Conf.Grace] 50)).alloc (.cells #[.int .i64 a.Kind, .int .i64 a.Pid, .int .i64 a.Seq, .slice qA3 a.Records.length qc3, .string a.Group, .int .i64 a.Offset, .int .i64 a.Max, .int .i64 a.Now, .int .u32 a.Sum, .int .i64 a.Conf.Segment, .int .i64 a.Conf.Keep, .int .i64 a.Conf.Age, .int .i64 a.Conf.Grace] 50)).heap.size := by simp
  have hbox1 : w2.heap[w.heap.size]? = some (.cells #[.int .i64 a.Kind, .int .i64 a.Pid, .int .i64 a.Seq, .slice pA3 a.Records.length pc3, .string a.Group, .int .i64 a.Offset, .int .i64 a.Max, .int .i64 a.Now, .int .u32 a.Sum, .int .i64 a.Conf.Segment, .int .i64 a.Conf.Keep, .int .i64 a.Conf.Age, .int .i64 a.Conf.Grace] 50 (0, 0)) := (hb.block _ hs1).trans (heap_alloc2_old w _ _)
  have hbox2 : w2.heap[w.heap.size + 1]? = some (.cells #[.int .i64 a.Kind, .int .i64 a.Pid, .int .i64 a.Seq, .slice qA3 a.Records.length qc3, .string a.Group, .int .i64 a.Offset, .int .i64 a.Max, .int .i64 a.Now, .int .u32 a.Sum, .int .i64 a.Conf.Segment, .int .i64 a.Conf.Keep, .int .i64 a.Conf.Age, .int .i64 a.Conf.Grace] 50 (0, 0)) := (hb.block _ hs2).trans (heap_alloc2_new w _ _)
  have hb0 : Below w.heap.size w w2 := (((Below.refl _ _).alloc (Nat.le_refl _) _).alloc (by simp) _).trans (hb.mono (by simp; omega))
  clear hb hs1 hs2
  obtain ⟨k0, k1, k2, k3, k4, k5, k6, k7, k8, k9, k10, k11, k12⟩ := box_Command hbox1
  obtain ⟨l0, l1, l2, l3, l4, l5, l6, l7, l8, l9, l10, l11, l12⟩ := box_Command hbox2
  clear hbox1 hbox2
  go_wp2
  go_ret
  exact ⟨rfl, hb0⟩

set_option maxHeartbeats 4000000 in
theorem within_any (n m : Int) (w : World) (h0 : 0 ≤ n) (h1 : n ≤ m) :
    Calls Tryd.prog 39 #[.int .i64 n, .int .i64 m] w fun e w' => e = .returned (.bool true) ∧ w' = w := by
  go_enter Tryd.func39, Tryd.ntmps39
  go_wp2
  go_ret
  exact ⟨rfl, rfl⟩

set_option maxHeartbeats 4000000 in
/-- A request's command. -/
theorem plain_sub (A : Option Addr) (n c : Nat) (n1 : 1 ≤ n) (n50 : n ≤ 50) (w : World) :
    Calls Tryd.prog 38 #[.agg #[.int .i64 1, .int .i64 0, .int .i64 0, .slice A n c, .string ⟨#[]⟩, .int .i64 0, .int .i64 0, .int .i64 0, .int .u32 0, .int .i64 0, .int .i64 0, .int .i64 0, .int .i64 0]] w fun e w' => e = .returned (.bool true) ∧ Below w.heap.size w w' := by
  have hgd := guard_Conf
  obtain ⟨r9, hr9, hq9, _⟩ := eq_Conf conf0 conf0
  obtain rfl : r9 = true := hr9.2 rfl
  clear hr9
  simp only [conf0] at hq9
  go_enter Tryd.func38, Tryd.ntmps38
  go_wp2
  go_ret
  exact ⟨rfl, (Below.refl _ _).alloc (Nat.le_refl _) _⟩

set_option maxHeartbeats 4000000 in
theorem RRight_any (tm : Int) (K V : ByteArray) (w : World) (t0 : 0 ≤ tm) (t1 : tm ≤ 1000) (k0 : 1 ≤ K.size) (k1 : K.size ≤ 200) (v1 : V.size ≤ 2000) :
    Calls Tryd.prog 40 #[.agg #[.int .i64 0, .int .i64 tm, .string K, .string V, .bool false]] w fun e w' => e = .returned (.bool true) ∧ Below w.heap.size w w' := by
  go_enter Tryd.func40, Tryd.ntmps40
  go_wp2
  go_ret
  exact ⟨rfl, (Below.refl _ _).alloc (Nat.le_refl _) _⟩
end Go.Proofs.YtngmipppgnlkdaaDoor
