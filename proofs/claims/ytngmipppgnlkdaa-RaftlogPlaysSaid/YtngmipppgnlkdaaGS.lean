/- Contract of Same. -/
import Derived.Test.YtngmipppgnlkdaaG
set_option linter.unusedVariables false
set_option linter.unusedSimpArgs false
namespace Go.Proofs.Ytngmipppgnlkdaa
open Go.RowKit

theorem ext_Command (a b : Command) : a = b ↔ a.Kind = b.Kind ∧ a.Pid = b.Pid ∧ a.Seq = b.Seq ∧ a.Records = b.Records ∧ a.Group.toList = b.Group.toList ∧ a.Offset = b.Offset ∧ a.Max = b.Max ∧ a.Now = b.Now ∧ a.Sum = b.Sum ∧ a.Conf = b.Conf := by
  constructor
  · rintro rfl; simp
  · rintro ⟨h0, h1, h2, h3, h4, h5, h6, h7, h8, h9⟩
    cases a; cases b
    dsimp only at h0 h1 h2 h3 h4 h5 h6 h7 h8 h9
    obtain rfl := h0
    obtain rfl := h1
    obtain rfl := h2
    obtain rfl := h3
    obtain rfl := bytes_ext h4
    obtain rfl := h5
    obtain rfl := h6
    obtain rfl := h7
    obtain rfl := h8
    obtain rfl := h9
    rfl

set_option maxHeartbeats 4000000 in
theorem Same_any (a b : Command) (pA3 qA3 : Option Addr) (pc3 qc3 : Nat) (F G : Foot) (w : World) (hx : RS kRecord w F pA3 a.Records.length a.Records) (hy : RS kRecord w G qA3 b.Records.length b.Records)
    (hn : a.Records.length ≤ 140737488355328) (hm : b.Records.length ≤ 140737488355328) :
    Calls Try.prog 39 #[.agg #[.int .i64 a.Kind, .int .i64 a.Pid, .int .i64 a.Seq, .slice pA3 a.Records.length pc3, .string a.Group, .int .i64 a.Offset, .int .i64 a.Max, .int .i64 a.Now, .int .u32 a.Sum, .int .i64 a.Conf.Segment, .int .i64 a.Conf.Keep, .int .i64 a.Conf.Age, .int .i64 a.Conf.Grace], .agg #[.int .i64 b.Kind, .int .i64 b.Pid, .int .i64 b.Seq, .slice qA3 b.Records.length qc3, .string b.Group, .int .i64 b.Offset, .int .i64 b.Max, .int .i64 b.Now, .int .u32 b.Sum, .int .i64 b.Conf.Segment, .int .i64 b.Conf.Keep, .int .i64 b.Conf.Age, .int .i64 b.Conf.Grace]] w (Tells (a = b) w) := by
  have hx2 := (hx.alloc (.cells #[.int .i64 a.Kind, .int .i64 a.Pid, .int .i64 a.Seq, .slice pA3 a.Records.length pc3, .string a.Group, .int .i64 a.Offset, .int .i64 a.Max, .int .i64 a.Now, .int .u32 a.Sum, .int .i64 a.Conf.Segment, .int .i64 a.Conf.Keep, .int .i64 a.Conf.Age, .int .i64 a.Conf.Grace] 36)).alloc (.cells #[.int .i64 b.Kind, .int .i64 b.Pid, .int .i64 b.Seq, .slice qA3 b.Records.length qc3, .string b.Group, .int .i64 b.Offset, .int .i64 b.Max, .int .i64 b.Now, .int .u32 b.Sum, .int .i64 b.Conf.Segment, .int .i64 b.Conf.Keep, .int .i64 b.Conf.Age, .int .i64 b.Conf.Grace] 36)
  have hy2 := (hy.alloc (.cells #[.int .i64 a.Kind, .int .i64 a.Pid, .int .i64 a.Seq, .slice pA3 a.Records.length pc3, .string a.Group, .int .i64 a.Offset, .int .i64 a.Max, .int .i64 a.Now, .int .u32 a.Sum, .int .i64 a.Conf.Segment, .int .i64 a.Conf.Keep, .int .i64 a.Conf.Age, .int .i64 a.Conf.Grace] 36)).alloc (.cells #[.int .i64 b.Kind, .int .i64 b.Pid, .int .i64 b.Seq, .slice qA3 b.Records.length qc3, .string b.Group, .int .i64 b.Offset, .int .i64 b.Max, .int .i64 b.Now, .int .u32 b.Sum, .int .i64 b.Conf.Segment, .int .i64 b.Conf.Keep, .int .i64 b.Conf.Age, .int .i64 b.Conf.Grace] 36)
  have hgd := guard_Conf
  by_cases h0 : a.Kind = b.Kind
  rotate_left
  · refine Calls.mono ?_ (fun e w1 (hh : e = .returned (.bool false) ∧ Below w.heap.size w w1) => ⟨false, hh.1, by rw [ext_Command]; simp [h0], hh.2⟩)
    have b0 : (a.Kind == b.Kind) = false := by rw [beq_eq_false_iff_ne]; exact h0
    have H0 := Lib.hid h0
    clear h0
    go_enter Try.func39, Try.ntmps39
    go_wp2
    go_ret
    exact ⟨rfl, ((Below.refl _ _).alloc (Nat.le_refl _) _).alloc (by simp) _⟩
  by_cases h1 : a.Pid = b.Pid
  rotate_left
  · refine Calls.mono ?_ (fun e w1 (hh : e = .returned (.bool false) ∧ Below w.heap.size w w1) => ⟨false, hh.1, by rw [ext_Command]; simp [h1], hh.2⟩)
    have b0 : (a.Kind == b.Kind) = true := by rw [beq_iff_eq]; exact h0
    have b1 : (a.Pid == b.Pid) = false := by rw [beq_eq_false_iff_ne]; exact h1
    have H0 := Lib.hid h0
    have H1 := Lib.hid h1
    clear h0 h1
    go_enter Try.func39, Try.ntmps39
    go_wp2
    go_ret
    exact ⟨rfl, ((Below.refl _ _).alloc (Nat.le_refl _) _).alloc (by simp) _⟩
  by_cases h2 : a.Seq = b.Seq
  rotate_left
  · refine Calls.mono ?_ (fun e w1 (hh : e = .returned (.bool false) ∧ Below w.heap.size w w1) => ⟨false, hh.1, by rw [ext_Command]; simp [h2], hh.2⟩)
    have b0 : (a.Kind == b.Kind) = true := by rw [beq_iff_eq]; exact h0
    have b1 : (a.Pid == b.Pid) = true := by rw [beq_iff_eq]; exact h1
    have b2 : (a.Seq == b.Seq) = false := by rw [beq_eq_false_iff_ne]; exact h2
    have H0 := Lib.hid h0
    have H1 := Lib.hid h1
    have H2 := Lib.hid h2
    clear h0 h1 h2
    go_enter Try.func39, Try.ntmps39
    go_wp2
    go_ret
    exact ⟨rfl, ((Below.refl _ _).alloc (Nat.le_refl _) _).alloc (by simp) _⟩
  by_cases h3 : a.Records = b.Records
  rotate_left
  · refine Calls.mono ?_ (fun e w1 (hh : e = .returned (.bool false) ∧ Below w.heap.size w w1) => ⟨false, hh.1, by rw [ext_Command]; simp [h3], hh.2⟩)
    have b0 : (a.Kind == b.Kind) = true := by rw [beq_iff_eq]; exact h0
    have b1 : (a.Pid == b.Pid) = true := by rw [beq_iff_eq]; exact h1
    have b2 : (a.Seq == b.Seq) = true := by rw [beq_iff_eq]; exact h2
    have H0 := Lib.hid h0
    have H1 := Lib.hid h1
    have H2 := Lib.hid h2
    have H3 := Lib.hid h3
    clear h0 h1 h2 h3
    go_enter Try.func39, Try.ntmps39
    go_wp2_with fail
    refine (SameRecords_any _ _ _ _ _ _ _ _ _ _ _ hx2 hy2 hn hm).mono ?_
    rintro e w2 ⟨r, rfl, hr, hb⟩
    obtain rfl : r = false := by rw [← Bool.not_eq_true, hr]; exact H3.out
    clear hr
    have hs1 : w.heap.size < ((w.alloc (.cells #[.int .i64 a.Kind, .int .i64 a.Pid, .int .i64 a.Seq, .slice pA3 a.Records.length pc3, .string a.Group, .int .i64 a.Offset, .int .i64 a.Max, .int .i64 a.Now, .int .u32 a.Sum, .int .i64 a.Conf.Segment, .int .i64 a.Conf.Keep, .int .i64 a.Conf.Age, .int .i64 a.Conf.Grace] 36)).alloc (.cells #[.int .i64 b.Kind, .int .i64 b.Pid, .int .i64 b.Seq, .slice qA3 b.Records.length qc3, .string b.Group, .int .i64 b.Offset, .int .i64 b.Max, .int .i64 b.Now, .int .u32 b.Sum, .int .i64 b.Conf.Segment, .int .i64 b.Conf.Keep, .int .i64 b.Conf.Age, .int .i64 b.Conf.Grace] 36)).heap.size := by simp; omega
    have hs2 : w.heap.size + 1 < ((w.alloc (.cells #[.int .i64 a.Kind, .int .i64 a.Pid, .int .i64 a.Seq, .slice pA3 a.Records.length pc3, .string a.Group, .int .i64 a.Offset, .int .i64 a.Max, .int .i64 a.Now, .int .u32 a.Sum, .int .i64 a.Conf.Segment, .int .i64 a.Conf.Keep, .int .i64 a.Conf.Age, .int .i64 a.Conf.Grace] 36)).alloc (.cells #[.int .i64 b.Kind, .int .i64 b.Pid, .int .i64 b.Seq, .slice qA3 b.Records.length qc3, .string b.Group, .int .i64 b.Offset, .int .i64 b.Max, .int .i64 b.Now, .int .u32 b.Sum, .int .i64 b.Conf.Segment, .int .i64 b.Conf.Keep, .int .i64 b.Conf.Age, .int .i64 b.Conf.Grace] 36)).heap.size := by simp
    have hbox1 : w2.heap[w.heap.size]? = some (.cells #[.int .i64 a.Kind, .int .i64 a.Pid, .int .i64 a.Seq, .slice pA3 a.Records.length pc3, .string a.Group, .int .i64 a.Offset, .int .i64 a.Max, .int .i64 a.Now, .int .u32 a.Sum, .int .i64 a.Conf.Segment, .int .i64 a.Conf.Keep, .int .i64 a.Conf.Age, .int .i64 a.Conf.Grace] 36 (0, 0)) := (hb.block _ hs1).trans (heap_alloc2_old w _ _)
    have hbox2 : w2.heap[w.heap.size + 1]? = some (.cells #[.int .i64 b.Kind, .int .i64 b.Pid, .int .i64 b.Seq, .slice qA3 b.Records.length qc3, .string b.Group, .int .i64 b.Offset, .int .i64 b.Max, .int .i64 b.Now, .int .u32 b.Sum, .int .i64 b.Conf.Segment, .int .i64 b.Conf.Keep, .int .i64 b.Conf.Age, .int .i64 b.Conf.Grace] 36 (0, 0)) := (hb.block _ hs2).trans (heap_alloc2_new w _ _)
    have hb0 : Below w.heap.size w w2 := (((Below.refl _ _).alloc (Nat.le_refl _) _).alloc (by simp) _).trans (hb.mono (by simp; omega))
    clear hb hs1 hs2
    obtain ⟨k0, k1, k2, k3, k4, k5, k6, k7, k8, k9, k10, k11, k12⟩ := box_Command hbox1
    obtain ⟨l0, l1, l2, l3, l4, l5, l6, l7, l8, l9, l10, l11, l12⟩ := box_Command hbox2
    clear hbox1 hbox2
    go_wp2
    go_ret
    exact ⟨rfl, hb0⟩
  by_cases h4 : a.Group.toList = b.Group.toList
  rotate_left
  · refine Calls.mono ?_ (fun e w1 (hh : e = .returned (.bool false) ∧ Below w.heap.size w w1) => ⟨false, hh.1, by rw [ext_Command]; simp [h4], hh.2⟩)
    have b0 : (a.Kind == b.Kind) = true := by rw [beq_iff_eq]; exact h0
    have b1 : (a.Pid == b.Pid) = true := by rw [beq_iff_eq]; exact h1
    have b2 : (a.Seq == b.Seq) = true := by rw [beq_iff_eq]; exact h2
    have b4 : (a.Group.toList == b.Group.toList) = false := by rw [beq_eq_false_iff_ne]; exact h4
    have H0 := Lib.hid h0
    have H1 := Lib.hid h1
    have H2 := Lib.hid h2
    have H3 := Lib.hid h3
    have H4 := Lib.hid h4
    clear h0 h1 h2 h3 h4
    go_enter Try.func39, Try.ntmps39
    go_wp2_with fail
    refine (SameRecords_any _ _ _ _ _ _ _ _ _ _ _ hx2 hy2 hn hm).mono ?_
    rintro e w2 ⟨r, rfl, hr, hb⟩
    obtain rfl : r = true := hr.2 H3.out
    clear hr
    have hs1 : w.heap.size < ((w.alloc (.cells #[.int .i64 a.Kind, .int .i64 a.Pid, .int .i64 a.Seq, .slice pA3 a.Records.length pc3, .string a.Group, .int .i64 a.Offset, .int .i64 a.Max, .int .i64 a.Now, .int .u32 a.Sum, .int .i64 a.Conf.Segment, .int .i64 a.Conf.Keep, .int .i64 a.Conf.Age, .int .i64 a.Conf.Grace] 36)).alloc (.cells #[.int .i64 b.Kind, .int .i64 b.Pid, .int .i64 b.Seq, .slice qA3 b.Records.length qc3, .string b.Group, .int .i64 b.Offset, .int .i64 b.Max, .int .i64 b.Now, .int .u32 b.Sum, .int .i64 b.Conf.Segment, .int .i64 b.Conf.Keep, .int .i64 b.Conf.Age, .int .i64 b.Conf.Grace] 36)).heap.size := by simp; omega
    have hs2 : w.heap.size + 1 < ((w.alloc (.cells #[.int .i64 a.Kind, .int .i64 a.Pid, .int .i64 a.Seq, .slice pA3 a.Records.length pc3, .string a.Group, .int .i64 a.Offset, .int .i64 a.Max, .int .i64 a.Now, .int .u32 a.Sum, .int .i64 a.Conf.Segment, .int .i64 a.Conf.Keep, .int .i64 a.Conf.Age, .int .i64 a.Conf.Grace] 36)).alloc (.cells #[.int .i64 b.Kind, .int .i64 b.Pid, .int .i64 b.Seq, .slice qA3 b.Records.length qc3, .string b.Group, .int .i64 b.Offset, .int .i64 b.Max, .int .i64 b.Now, .int .u32 b.Sum, .int .i64 b.Conf.Segment, .int .i64 b.Conf.Keep, .int .i64 b.Conf.Age, .int .i64 b.Conf.Grace] 36)).heap.size := by simp
    have hbox1 : w2.heap[w.heap.size]? = some (.cells #[.int .i64 a.Kind, .int .i64 a.Pid, .int .i64 a.Seq, .slice pA3 a.Records.length pc3, .string a.Group, .int .i64 a.Offset, .int .i64 a.Max, .int .i64 a.Now, .int .u32 a.Sum, .int .i64 a.Conf.Segment, .int .i64 a.Conf.Keep, .int .i64 a.Conf.Age, .int .i64 a.Conf.Grace] 36 (0, 0)) := (hb.block _ hs1).trans (heap_alloc2_old w _ _)
    have hbox2 : w2.heap[w.heap.size + 1]? = some (.cells #[.int .i64 b.Kind, .int .i64 b.Pid, .int .i64 b.Seq, .slice qA3 b.Records.length qc3, .string b.Group, .int .i64 b.Offset, .int .i64 b.Max, .int .i64 b.Now, .int .u32 b.Sum, .int .i64 b.Conf.Segment, .int .i64 b.Conf.Keep, .int .i64 b.Conf.Age, .int .i64 b.Conf.Grace] 36 (0, 0)) := (hb.block _ hs2).trans (heap_alloc2_new w _ _)
    have hb0 : Below w.heap.size w w2 := (((Below.refl _ _).alloc (Nat.le_refl _) _).alloc (by simp) _).trans (hb.mono (by simp; omega))
    clear hb hs1 hs2
    obtain ⟨k0, k1, k2, k3, k4, k5, k6, k7, k8, k9, k10, k11, k12⟩ := box_Command hbox1
    obtain ⟨l0, l1, l2, l3, l4, l5, l6, l7, l8, l9, l10, l11, l12⟩ := box_Command hbox2
    clear hbox1 hbox2
    go_wp2
    go_ret
    exact ⟨rfl, hb0⟩
  by_cases h5 : a.Offset = b.Offset
  rotate_left
  · refine Calls.mono ?_ (fun e w1 (hh : e = .returned (.bool false) ∧ Below w.heap.size w w1) => ⟨false, hh.1, by rw [ext_Command]; simp [h5], hh.2⟩)
    have b0 : (a.Kind == b.Kind) = true := by rw [beq_iff_eq]; exact h0
    have b1 : (a.Pid == b.Pid) = true := by rw [beq_iff_eq]; exact h1
    have b2 : (a.Seq == b.Seq) = true := by rw [beq_iff_eq]; exact h2
    have b4 : (a.Group.toList == b.Group.toList) = true := by rw [beq_iff_eq]; exact h4
    have b5 : (a.Offset == b.Offset) = false := by rw [beq_eq_false_iff_ne]; exact h5
    have H0 := Lib.hid h0
    have H1 := Lib.hid h1
    have H2 := Lib.hid h2
    have H3 := Lib.hid h3
    have H4 := Lib.hid h4
    have H5 := Lib.hid h5
    clear h0 h1 h2 h3 h4 h5
    go_enter Try.func39, Try.ntmps39
    go_wp2_with fail
    refine (SameRecords_any _ _ _ _ _ _ _ _ _ _ _ hx2 hy2 hn hm).mono ?_
    rintro e w2 ⟨r, rfl, hr, hb⟩
    obtain rfl : r = true := hr.2 H3.out
    clear hr
    have hs1 : w.heap.size < ((w.alloc (.cells #[.int .i64 a.Kind, .int .i64 a.Pid, .int .i64 a.Seq, .slice pA3 a.Records.length pc3, .string a.Group, .int .i64 a.Offset, .int .i64 a.Max, .int .i64 a.Now, .int .u32 a.Sum, .int .i64 a.Conf.Segment, .int .i64 a.Conf.Keep, .int .i64 a.Conf.Age, .int .i64 a.Conf.Grace] 36)).alloc (.cells #[.int .i64 b.Kind, .int .i64 b.Pid, .int .i64 b.Seq, .slice qA3 b.Records.length qc3, .string b.Group, .int .i64 b.Offset, .int .i64 b.Max, .int .i64 b.Now, .int .u32 b.Sum, .int .i64 b.Conf.Segment, .int .i64 b.Conf.Keep, .int .i64 b.Conf.Age, .int .i64 b.Conf.Grace] 36)).heap.size := by simp; omega
    have hs2 : w.heap.size + 1 < ((w.alloc (.cells #[.int .i64 a.Kind, .int .i64 a.Pid, .int .i64 a.Seq, .slice pA3 a.Records.length pc3, .string a.Group, .int .i64 a.Offset, .int .i64 a.Max, .int .i64 a.Now, .int .u32 a.Sum, .int .i64 a.Conf.Segment, .int .i64 a.Conf.Keep, .int .i64 a.Conf.Age, .int .i64 a.Conf.Grace] 36)).alloc (.cells #[.int .i64 b.Kind, .int .i64 b.Pid, .int .i64 b.Seq, .slice qA3 b.Records.length qc3, .string b.Group, .int .i64 b.Offset, .int .i64 b.Max, .int .i64 b.Now, .int .u32 b.Sum, .int .i64 b.Conf.Segment, .int .i64 b.Conf.Keep, .int .i64 b.Conf.Age, .int .i64 b.Conf.Grace] 36)).heap.size := by simp
    have hbox1 : w2.heap[w.heap.size]? = some (.cells #[.int .i64 a.Kind, .int .i64 a.Pid, .int .i64 a.Seq, .slice pA3 a.Records.length pc3, .string a.Group, .int .i64 a.Offset, .int .i64 a.Max, .int .i64 a.Now, .int .u32 a.Sum, .int .i64 a.Conf.Segment, .int .i64 a.Conf.Keep, .int .i64 a.Conf.Age, .int .i64 a.Conf.Grace] 36 (0, 0)) := (hb.block _ hs1).trans (heap_alloc2_old w _ _)
    have hbox2 : w2.heap[w.heap.size + 1]? = some (.cells #[.int .i64 b.Kind, .int .i64 b.Pid, .int .i64 b.Seq, .slice qA3 b.Records.length qc3, .string b.Group, .int .i64 b.Offset, .int .i64 b.Max, .int .i64 b.Now, .int .u32 b.Sum, .int .i64 b.Conf.Segment, .int .i64 b.Conf.Keep, .int .i64 b.Conf.Age, .int .i64 b.Conf.Grace] 36 (0, 0)) := (hb.block _ hs2).trans (heap_alloc2_new w _ _)
    have hb0 : Below w.heap.size w w2 := (((Below.refl _ _).alloc (Nat.le_refl _) _).alloc (by simp) _).trans (hb.mono (by simp; omega))
    clear hb hs1 hs2
    obtain ⟨k0, k1, k2, k3, k4, k5, k6, k7, k8, k9, k10, k11, k12⟩ := box_Command hbox1
    obtain ⟨l0, l1, l2, l3, l4, l5, l6, l7, l8, l9, l10, l11, l12⟩ := box_Command hbox2
    clear hbox1 hbox2
    go_wp2
    go_ret
    exact ⟨rfl, hb0⟩
  by_cases h6 : a.Max = b.Max
  rotate_left
  · refine Calls.mono ?_ (fun e w1 (hh : e = .returned (.bool false) ∧ Below w.heap.size w w1) => ⟨false, hh.1, by rw [ext_Command]; simp [h6], hh.2⟩)
    have b0 : (a.Kind == b.Kind) = true := by rw [beq_iff_eq]; exact h0
    have b1 : (a.Pid == b.Pid) = true := by rw [beq_iff_eq]; exact h1
    have b2 : (a.Seq == b.Seq) = true := by rw [beq_iff_eq]; exact h2
    have b4 : (a.Group.toList == b.Group.toList) = true := by rw [beq_iff_eq]; exact h4
    have b5 : (a.Offset == b.Offset) = true := by rw [beq_iff_eq]; exact h5
    have b6 : (a.Max == b.Max) = false := by rw [beq_eq_false_iff_ne]; exact h6
    have H0 := Lib.hid h0
    have H1 := Lib.hid h1
    have H2 := Lib.hid h2
    have H3 := Lib.hid h3
    have H4 := Lib.hid h4
    have H5 := Lib.hid h5
    have H6 := Lib.hid h6
    clear h0 h1 h2 h3 h4 h5 h6
    go_enter Try.func39, Try.ntmps39
    go_wp2_with fail
    refine (SameRecords_any _ _ _ _ _ _ _ _ _ _ _ hx2 hy2 hn hm).mono ?_
    rintro e w2 ⟨r, rfl, hr, hb⟩
    obtain rfl : r = true := hr.2 H3.out
    clear hr
    have hs1 : w.heap.size < ((w.alloc (.cells #[.int .i64 a.Kind, .int .i64 a.Pid, .int .i64 a.Seq, .slice pA3 a.Records.length pc3, .string a.Group, .int .i64 a.Offset, .int .i64 a.Max, .int .i64 a.Now, .int .u32 a.Sum, .int .i64 a.Conf.Segment, .int .i64 a.Conf.Keep, .int .i64 a.Conf.Age, .int .i64 a.Conf.Grace] 36)).alloc (.cells #[.int .i64 b.Kind, .int .i64 b.Pid, .int .i64 b.Seq, .slice qA3 b.Records.length qc3, .string b.Group, .int .i64 b.Offset, .int .i64 b.Max, .int .i64 b.Now, .int .u32 b.Sum, .int .i64 b.Conf.Segment, .int .i64 b.Conf.Keep, .int .i64 b.Conf.Age, .int .i64 b.Conf.Grace] 36)).heap.size := by simp; omega
    have hs2 : w.heap.size + 1 < ((w.alloc (.cells #[.int .i64 a.Kind, .int .i64 a.Pid, .int .i64 a.Seq, .slice pA3 a.Records.length pc3, .string a.Group, .int .i64 a.Offset, .int .i64 a.Max, .int .i64 a.Now, .int .u32 a.Sum, .int .i64 a.Conf.Segment, .int .i64 a.Conf.Keep, .int .i64 a.Conf.Age, .int .i64 a.Conf.Grace] 36)).alloc (.cells #[.int .i64 b.Kind, .int .i64 b.Pid, .int .i64 b.Seq, .slice qA3 b.Records.length qc3, .string b.Group, .int .i64 b.Offset, .int .i64 b.Max, .int .i64 b.Now, .int .u32 b.Sum, .int .i64 b.Conf.Segment, .int .i64 b.Conf.Keep, .int .i64 b.Conf.Age, .int .i64 b.Conf.Grace] 36)).heap.size := by simp
    have hbox1 : w2.heap[w.heap.size]? = some (.cells #[.int .i64 a.Kind, .int .i64 a.Pid, .int .i64 a.Seq, .slice pA3 a.Records.length pc3, .string a.Group, .int .i64 a.Offset, .int .i64 a.Max, .int .i64 a.Now, .int .u32 a.Sum, .int .i64 a.Conf.Segment, .int .i64 a.Conf.Keep, .int .i64 a.Conf.Age, .int .i64 a.Conf.Grace] 36 (0, 0)) := (hb.block _ hs1).trans (heap_alloc2_old w _ _)
    have hbox2 : w2.heap[w.heap.size + 1]? = some (.cells #[.int .i64 b.Kind, .int .i64 b.Pid, .int .i64 b.Seq, .slice qA3 b.Records.length qc3, .string b.Group, .int .i64 b.Offset, .int .i64 b.Max, .int .i64 b.Now, .int .u32 b.Sum, .int .i64 b.Conf.Segment, .int .i64 b.Conf.Keep, .int .i64 b.Conf.Age, .int .i64 b.Conf.Grace] 36 (0, 0)) := (hb.block _ hs2).trans (heap_alloc2_new w _ _)
    have hb0 : Below w.heap.size w w2 := (((Below.refl _ _).alloc (Nat.le_refl _) _).alloc (by simp) _).trans (hb.mono (by simp; omega))
    clear hb hs1 hs2
    obtain ⟨k0, k1, k2, k3, k4, k5, k6, k7, k8, k9, k10, k11, k12⟩ := box_Command hbox1
    obtain ⟨l0, l1, l2, l3, l4, l5, l6, l7, l8, l9, l10, l11, l12⟩ := box_Command hbox2
    clear hbox1 hbox2
    go_wp2
    go_ret
    exact ⟨rfl, hb0⟩
  by_cases h7 : a.Now = b.Now
  rotate_left
  · refine Calls.mono ?_ (fun e w1 (hh : e = .returned (.bool false) ∧ Below w.heap.size w w1) => ⟨false, hh.1, by rw [ext_Command]; simp [h7], hh.2⟩)
    have b0 : (a.Kind == b.Kind) = true := by rw [beq_iff_eq]; exact h0
    have b1 : (a.Pid == b.Pid) = true := by rw [beq_iff_eq]; exact h1
    have b2 : (a.Seq == b.Seq) = true := by rw [beq_iff_eq]; exact h2
    have b4 : (a.Group.toList == b.Group.toList) = true := by rw [beq_iff_eq]; exact h4
    have b5 : (a.Offset == b.Offset) = true := by rw [beq_iff_eq]; exact h5
    have b6 : (a.Max == b.Max) = true := by rw [beq_iff_eq]; exact h6
    have b7 : (a.Now == b.Now) = false := by rw [beq_eq_false_iff_ne]; exact h7
    have H0 := Lib.hid h0
    have H1 := Lib.hid h1
    have H2 := Lib.hid h2
    have H3 := Lib.hid h3
    have H4 := Lib.hid h4
    have H5 := Lib.hid h5
    have H6 := Lib.hid h6
    have H7 := Lib.hid h7
    clear h0 h1 h2 h3 h4 h5 h6 h7
    go_enter Try.func39, Try.ntmps39
    go_wp2_with fail
    refine (SameRecords_any _ _ _ _ _ _ _ _ _ _ _ hx2 hy2 hn hm).mono ?_
    rintro e w2 ⟨r, rfl, hr, hb⟩
    obtain rfl : r = true := hr.2 H3.out
    clear hr
    have hs1 : w.heap.size < ((w.alloc (.cells #[.int .i64 a.Kind, .int .i64 a.Pid, .int .i64 a.Seq, .slice pA3 a.Records.length pc3, .string a.Group, .int .i64 a.Offset, .int .i64 a.Max, .int .i64 a.Now, .int .u32 a.Sum, .int .i64 a.Conf.Segment, .int .i64 a.Conf.Keep, .int .i64 a.Conf.Age, .int .i64 a.Conf.Grace] 36)).alloc (.cells #[.int .i64 b.Kind, .int .i64 b.Pid, .int .i64 b.Seq, .slice qA3 b.Records.length qc3, .string b.Group, .int .i64 b.Offset, .int .i64 b.Max, .int .i64 b.Now, .int .u32 b.Sum, .int .i64 b.Conf.Segment, .int .i64 b.Conf.Keep, .int .i64 b.Conf.Age, .int .i64 b.Conf.Grace] 36)).heap.size := by simp; omega
    have hs2 : w.heap.size + 1 < ((w.alloc (.cells #[.int .i64 a.Kind, .int .i64 a.Pid, .int .i64 a.Seq, .slice pA3 a.Records.length pc3, .string a.Group, .int .i64 a.Offset, .int .i64 a.Max, .int .i64 a.Now, .int .u32 a.Sum, .int .i64 a.Conf.Segment, .int .i64 a.Conf.Keep, .int .i64 a.Conf.Age, .int .i64 a.Conf.Grace] 36)).alloc (.cells #[.int .i64 b.Kind, .int .i64 b.Pid, .int .i64 b.Seq, .slice qA3 b.Records.length qc3, .string b.Group, .int .i64 b.Offset, .int .i64 b.Max, .int .i64 b.Now, .int .u32 b.Sum, .int .i64 b.Conf.Segment, .int .i64 b.Conf.Keep, .int .i64 b.Conf.Age, .int .i64 b.Conf.Grace] 36)).heap.size := by simp
    have hbox1 : w2.heap[w.heap.size]? = some (.cells #[.int .i64 a.Kind, .int .i64 a.Pid, .int .i64 a.Seq, .slice pA3 a.Records.length pc3, .string a.Group, .int .i64 a.Offset, .int .i64 a.Max, .int .i64 a.Now, .int .u32 a.Sum, .int .i64 a.Conf.Segment, .int .i64 a.Conf.Keep, .int .i64 a.Conf.Age, .int .i64 a.Conf.Grace] 36 (0, 0)) := (hb.block _ hs1).trans (heap_alloc2_old w _ _)
    have hbox2 : w2.heap[w.heap.size + 1]? = some (.cells #[.int .i64 b.Kind, .int .i64 b.Pid, .int .i64 b.Seq, .slice qA3 b.Records.length qc3, .string b.Group, .int .i64 b.Offset, .int .i64 b.Max, .int .i64 b.Now, .int .u32 b.Sum, .int .i64 b.Conf.Segment, .int .i64 b.Conf.Keep, .int .i64 b.Conf.Age, .int .i64 b.Conf.Grace] 36 (0, 0)) := (hb.block _ hs2).trans (heap_alloc2_new w _ _)
    have hb0 : Below w.heap.size w w2 := (((Below.refl _ _).alloc (Nat.le_refl _) _).alloc (by simp) _).trans (hb.mono (by simp; omega))
    clear hb hs1 hs2
    obtain ⟨k0, k1, k2, k3, k4, k5, k6, k7, k8, k9, k10, k11, k12⟩ := box_Command hbox1
    obtain ⟨l0, l1, l2, l3, l4, l5, l6, l7, l8, l9, l10, l11, l12⟩ := box_Command hbox2
    clear hbox1 hbox2
    go_wp2
    go_ret
    exact ⟨rfl, hb0⟩
  by_cases h8 : a.Sum = b.Sum
  rotate_left
  · refine Calls.mono ?_ (fun e w1 (hh : e = .returned (.bool false) ∧ Below w.heap.size w w1) => ⟨false, hh.1, by rw [ext_Command]; simp [h8], hh.2⟩)
    have b0 : (a.Kind == b.Kind) = true := by rw [beq_iff_eq]; exact h0
    have b1 : (a.Pid == b.Pid) = true := by rw [beq_iff_eq]; exact h1
    have b2 : (a.Seq == b.Seq) = true := by rw [beq_iff_eq]; exact h2
    have b4 : (a.Group.toList == b.Group.toList) = true := by rw [beq_iff_eq]; exact h4
    have b5 : (a.Offset == b.Offset) = true := by rw [beq_iff_eq]; exact h5
    have b6 : (a.Max == b.Max) = true := by rw [beq_iff_eq]; exact h6
    have b7 : (a.Now == b.Now) = true := by rw [beq_iff_eq]; exact h7
    have b8 : (a.Sum == b.Sum) = false := by rw [beq_eq_false_iff_ne]; exact h8
    have H0 := Lib.hid h0
    have H1 := Lib.hid h1
    have H2 := Lib.hid h2
    have H3 := Lib.hid h3
    have H4 := Lib.hid h4
    have H5 := Lib.hid h5
    have H6 := Lib.hid h6
    have H7 := Lib.hid h7
    have H8 := Lib.hid h8
    clear h0 h1 h2 h3 h4 h5 h6 h7 h8
    go_enter Try.func39, Try.ntmps39
    go_wp2_with fail
    refine (SameRecords_any _ _ _ _ _ _ _ _ _ _ _ hx2 hy2 hn hm).mono ?_
    rintro e w2 ⟨r, rfl, hr, hb⟩
    obtain rfl : r = true := hr.2 H3.out
    clear hr
    have hs1 : w.heap.size < ((w.alloc (.cells #[.int .i64 a.Kind, .int .i64 a.Pid, .int .i64 a.Seq, .slice pA3 a.Records.length pc3, .string a.Group, .int .i64 a.Offset, .int .i64 a.Max, .int .i64 a.Now, .int .u32 a.Sum, .int .i64 a.Conf.Segment, .int .i64 a.Conf.Keep, .int .i64 a.Conf.Age, .int .i64 a.Conf.Grace] 36)).alloc (.cells #[.int .i64 b.Kind, .int .i64 b.Pid, .int .i64 b.Seq, .slice qA3 b.Records.length qc3, .string b.Group, .int .i64 b.Offset, .int .i64 b.Max, .int .i64 b.Now, .int .u32 b.Sum, .int .i64 b.Conf.Segment, .int .i64 b.Conf.Keep, .int .i64 b.Conf.Age, .int .i64 b.Conf.Grace] 36)).heap.size := by simp; omega
    have hs2 : w.heap.size + 1 < ((w.alloc (.cells #[.int .i64 a.Kind, .int .i64 a.Pid, .int .i64 a.Seq, .slice pA3 a.Records.length pc3, .string a.Group, .int .i64 a.Offset, .int .i64 a.Max, .int .i64 a.Now, .int .u32 a.Sum, .int .i64 a.Conf.Segment, .int .i64 a.Conf.Keep, .int .i64 a.Conf.Age, .int .i64 a.Conf.Grace] 36)).alloc (.cells #[.int .i64 b.Kind, .int .i64 b.Pid, .int .i64 b.Seq, .slice qA3 b.Records.length qc3, .string b.Group, .int .i64 b.Offset, .int .i64 b.Max, .int .i64 b.Now, .int .u32 b.Sum, .int .i64 b.Conf.Segment, .int .i64 b.Conf.Keep, .int .i64 b.Conf.Age, .int .i64 b.Conf.Grace] 36)).heap.size := by simp
    have hbox1 : w2.heap[w.heap.size]? = some (.cells #[.int .i64 a.Kind, .int .i64 a.Pid, .int .i64 a.Seq, .slice pA3 a.Records.length pc3, .string a.Group, .int .i64 a.Offset, .int .i64 a.Max, .int .i64 a.Now, .int .u32 a.Sum, .int .i64 a.Conf.Segment, .int .i64 a.Conf.Keep, .int .i64 a.Conf.Age, .int .i64 a.Conf.Grace] 36 (0, 0)) := (hb.block _ hs1).trans (heap_alloc2_old w _ _)
    have hbox2 : w2.heap[w.heap.size + 1]? = some (.cells #[.int .i64 b.Kind, .int .i64 b.Pid, .int .i64 b.Seq, .slice qA3 b.Records.length qc3, .string b.Group, .int .i64 b.Offset, .int .i64 b.Max, .int .i64 b.Now, .int .u32 b.Sum, .int .i64 b.Conf.Segment, .int .i64 b.Conf.Keep, .int .i64 b.Conf.Age, .int .i64 b.Conf.Grace] 36 (0, 0)) := (hb.block _ hs2).trans (heap_alloc2_new w _ _)
    have hb0 : Below w.heap.size w w2 := (((Below.refl _ _).alloc (Nat.le_refl _) _).alloc (by simp) _).trans (hb.mono (by simp; omega))
    clear hb hs1 hs2
    obtain ⟨k0, k1, k2, k3, k4, k5, k6, k7, k8, k9, k10, k11, k12⟩ := box_Command hbox1
    obtain ⟨l0, l1, l2, l3, l4, l5, l6, l7, l8, l9, l10, l11, l12⟩ := box_Command hbox2
    clear hbox1 hbox2
    go_wp2
    go_ret
    exact ⟨rfl, hb0⟩
  by_cases h9 : a.Conf = b.Conf
  rotate_left
  · refine Calls.mono ?_ (fun e w1 (hh : e = .returned (.bool false) ∧ Below w.heap.size w w1) => ⟨false, hh.1, by rw [ext_Command]; simp [h9], hh.2⟩)
    have b0 : (a.Kind == b.Kind) = true := by rw [beq_iff_eq]; exact h0
    have b1 : (a.Pid == b.Pid) = true := by rw [beq_iff_eq]; exact h1
    have b2 : (a.Seq == b.Seq) = true := by rw [beq_iff_eq]; exact h2
    have b4 : (a.Group.toList == b.Group.toList) = true := by rw [beq_iff_eq]; exact h4
    have b5 : (a.Offset == b.Offset) = true := by rw [beq_iff_eq]; exact h5
    have b6 : (a.Max == b.Max) = true := by rw [beq_iff_eq]; exact h6
    have b7 : (a.Now == b.Now) = true := by rw [beq_iff_eq]; exact h7
    have b8 : (a.Sum == b.Sum) = true := by rw [beq_iff_eq]; exact h8
    obtain ⟨r9, hr9, hq9, _⟩ := eq_Conf a.Conf b.Conf
    obtain rfl : r9 = false := by rw [← Bool.not_eq_true, hr9]; exact h9
    clear hr9
    have H0 := Lib.hid h0
    have H1 := Lib.hid h1
    have H2 := Lib.hid h2
    have H3 := Lib.hid h3
    have H4 := Lib.hid h4
    have H5 := Lib.hid h5
    have H6 := Lib.hid h6
    have H7 := Lib.hid h7
    have H8 := Lib.hid h8
    have H9 := Lib.hid h9
    clear h0 h1 h2 h3 h4 h5 h6 h7 h8 h9
    go_enter Try.func39, Try.ntmps39
    go_wp2_with fail
    refine (SameRecords_any _ _ _ _ _ _ _ _ _ _ _ hx2 hy2 hn hm).mono ?_
    rintro e w2 ⟨r, rfl, hr, hb⟩
    obtain rfl : r = true := hr.2 H3.out
    clear hr
    have hs1 : w.heap.size < ((w.alloc (.cells #[.int .i64 a.Kind, .int .i64 a.Pid, .int .i64 a.Seq, .slice pA3 a.Records.length pc3, .string a.Group, .int .i64 a.Offset, .int .i64 a.Max, .int .i64 a.Now, .int .u32 a.Sum, .int .i64 a.Conf.Segment, .int .i64 a.Conf.Keep, .int .i64 a.Conf.Age, .int .i64 a.Conf.Grace] 36)).alloc (.cells #[.int .i64 b.Kind, .int .i64 b.Pid, .int .i64 b.Seq, .slice qA3 b.Records.length qc3, .string b.Group, .int .i64 b.Offset, .int .i64 b.Max, .int .i64 b.Now, .int .u32 b.Sum, .int .i64 b.Conf.Segment, .int .i64 b.Conf.Keep, .int .i64 b.Conf.Age, .int .i64 b.Conf.Grace] 36)).heap.size := by simp; omega
    have hs2 : w.heap.size + 1 < ((w.alloc (.cells #[.int .i64 a.Kind, .int .i64 a.Pid, .int .i64 a.Seq, .slice pA3 a.Records.length pc3, .string a.Group, .int .i64 a.Offset, .int .i64 a.Max, .int .i64 a.Now, .int .u32 a.Sum, .int .i64 a.Conf.Segment, .int .i64 a.Conf.Keep, .int .i64 a.Conf.Age, .int .i64 a.Conf.Grace] 36)).alloc (.cells #[.int .i64 b.Kind, .int .i64 b.Pid, .int .i64 b.Seq, .slice qA3 b.Records.length qc3, .string b.Group, .int .i64 b.Offset, .int .i64 b.Max, .int .i64 b.Now, .int .u32 b.Sum, .int .i64 b.Conf.Segment, .int .i64 b.Conf.Keep, .int .i64 b.Conf.Age, .int .i64 b.Conf.Grace] 36)).heap.size := by simp
    have hbox1 : w2.heap[w.heap.size]? = some (.cells #[.int .i64 a.Kind, .int .i64 a.Pid, .int .i64 a.Seq, .slice pA3 a.Records.length pc3, .string a.Group, .int .i64 a.Offset, .int .i64 a.Max, .int .i64 a.Now, .int .u32 a.Sum, .int .i64 a.Conf.Segment, .int .i64 a.Conf.Keep, .int .i64 a.Conf.Age, .int .i64 a.Conf.Grace] 36 (0, 0)) := (hb.block _ hs1).trans (heap_alloc2_old w _ _)
    have hbox2 : w2.heap[w.heap.size + 1]? = some (.cells #[.int .i64 b.Kind, .int .i64 b.Pid, .int .i64 b.Seq, .slice qA3 b.Records.length qc3, .string b.Group, .int .i64 b.Offset, .int .i64 b.Max, .int .i64 b.Now, .int .u32 b.Sum, .int .i64 b.Conf.Segment, .int .i64 b.Conf.Keep, .int .i64 b.Conf.Age, .int .i64 b.Conf.Grace] 36 (0, 0)) := (hb.block _ hs2).trans (heap_alloc2_new w _ _)
    have hb0 : Below w.heap.size w w2 := (((Below.refl _ _).alloc (Nat.le_refl _) _).alloc (by simp) _).trans (hb.mono (by simp; omega))
    clear hb hs1 hs2
    obtain ⟨k0, k1, k2, k3, k4, k5, k6, k7, k8, k9, k10, k11, k12⟩ := box_Command hbox1
    obtain ⟨l0, l1, l2, l3, l4, l5, l6, l7, l8, l9, l10, l11, l12⟩ := box_Command hbox2
    clear hbox1 hbox2
    go_wp2
    go_ret
    exact ⟨rfl, hb0⟩
  refine Calls.mono ?_ (fun e w1 (hh : e = .returned (.bool true) ∧ Below w.heap.size w w1) => ⟨true, hh.1, by rw [ext_Command]; simp [h0, h1, h2, h3, h4, h5, h6, h7, h8, h9], hh.2⟩)
  have b0 : (a.Kind == b.Kind) = true := by rw [beq_iff_eq]; exact h0
  have b1 : (a.Pid == b.Pid) = true := by rw [beq_iff_eq]; exact h1
  have b2 : (a.Seq == b.Seq) = true := by rw [beq_iff_eq]; exact h2
  have b4 : (a.Group.toList == b.Group.toList) = true := by rw [beq_iff_eq]; exact h4
  have b5 : (a.Offset == b.Offset) = true := by rw [beq_iff_eq]; exact h5
  have b6 : (a.Max == b.Max) = true := by rw [beq_iff_eq]; exact h6
  have b7 : (a.Now == b.Now) = true := by rw [beq_iff_eq]; exact h7
  have b8 : (a.Sum == b.Sum) = true := by rw [beq_iff_eq]; exact h8
  obtain ⟨r9, hr9, hq9, _⟩ := eq_Conf a.Conf b.Conf
  obtain rfl : r9 = true := hr9.2 h9
  clear hr9
  have H0 := Lib.hid h0
  have H1 := Lib.hid h1
  have H2 := Lib.hid h2
  have H3 := Lib.hid h3
  have H4 := Lib.hid h4
  have H5 := Lib.hid h5
  have H6 := Lib.hid h6
  have H7 := Lib.hid h7
  have H8 := Lib.hid h8
  have H9 := Lib.hid h9
  clear h0 h1 h2 h3 h4 h5 h6 h7 h8 h9
  go_enter Try.func39, Try.ntmps39
  go_wp2_with fail
  refine (SameRecords_any _ _ _ _ _ _ _ _ _ _ _ hx2 hy2 hn hm).mono ?_
  rintro e w2 ⟨r, rfl, hr, hb⟩
  obtain rfl : r = true := hr.2 H3.out
  clear hr
  have hs1 : w.heap.size < ((w.alloc (.cells #[.int .i64 a.Kind, .int .i64 a.Pid, .int .i64 a.Seq, .slice pA3 a.Records.length pc3, .string a.Group, .int .i64 a.Offset, .int .i64 a.Max, .int .i64 a.Now, .int .u32 a.Sum, .int .i64 a.Conf.Segment, .int .i64 a.Conf.Keep, .int .i64 a.Conf.Age, .int .i64 a.Conf.Grace] 36)).alloc (.cells #[.int .i64 b.Kind, .int .i64 b.Pid, .int .i64 b.Seq, .slice qA3 b.Records.length qc3, .string b.Group, .int .i64 b.Offset, .int .i64 b.Max, .int .i64 b.Now, .int .u32 b.Sum, .int .i64 b.Conf.Segment, .int .i64 b.Conf.Keep, .int .i64 b.Conf.Age, .int .i64 b.Conf.Grace] 36)).heap.size := by simp; omega
  have hs2 : w.heap.size + 1 < ((w.alloc (.cells #[.int .i64 a.Kind, .int .i64 a.Pid, .int .i64 a.Seq, .slice pA3 a.Records.length pc3, .string a.Group, .int .i64 a.Offset, .int .i64 a.Max, .int .i64 a.Now, .int .u32 a.Sum, .int .i64 a.Conf.Segment, .int .i64 a.Conf.Keep, .int .i64 a.Conf.Age, .int .i64 a.Conf.Grace] 36)).alloc (.cells #[.int .i64 b.Kind, .int .i64 b.Pid, .int .i64 b.Seq, .slice qA3 b.Records.length qc3, .string b.Group, .int .i64 b.Offset, .int .i64 b.Max, .int .i64 b.Now, .int .u32 b.Sum, .int .i64 b.Conf.Segment, .int .i64 b.Conf.Keep, .int .i64 b.Conf.Age, .int .i64 b.Conf.Grace] 36)).heap.size := by simp
  have hbox1 : w2.heap[w.heap.size]? = some (.cells #[.int .i64 a.Kind, .int .i64 a.Pid, .int .i64 a.Seq, .slice pA3 a.Records.length pc3, .string a.Group, .int .i64 a.Offset, .int .i64 a.Max, .int .i64 a.Now, .int .u32 a.Sum, .int .i64 a.Conf.Segment, .int .i64 a.Conf.Keep, .int .i64 a.Conf.Age, .int .i64 a.Conf.Grace] 36 (0, 0)) := (hb.block _ hs1).trans (heap_alloc2_old w _ _)
  have hbox2 : w2.heap[w.heap.size + 1]? = some (.cells #[.int .i64 b.Kind, .int .i64 b.Pid, .int .i64 b.Seq, .slice qA3 b.Records.length qc3, .string b.Group, .int .i64 b.Offset, .int .i64 b.Max, .int .i64 b.Now, .int .u32 b.Sum, .int .i64 b.Conf.Segment, .int .i64 b.Conf.Keep, .int .i64 b.Conf.Age, .int .i64 b.Conf.Grace] 36 (0, 0)) := (hb.block _ hs2).trans (heap_alloc2_new w _ _)
  have hb0 : Below w.heap.size w w2 := (((Below.refl _ _).alloc (Nat.le_refl _) _).alloc (by simp) _).trans (hb.mono (by simp; omega))
  clear hb hs1 hs2
  obtain ⟨k0, k1, k2, k3, k4, k5, k6, k7, k8, k9, k10, k11, k12⟩ := box_Command hbox1
  obtain ⟨l0, l1, l2, l3, l4, l5, l6, l7, l8, l9, l10, l11, l12⟩ := box_Command hbox2
  clear hbox1 hbox2
  go_wp2
  go_ret
  exact ⟨rfl, hb0⟩
end Go.Proofs.Ytngmipppgnlkdaa
