/- segment.Bytes, the program's and the document's. Printed by gen_v7.py (own work). -/
import Derived.Test.YtfjndjbpgcggkaaDoorV6
set_option linter.unusedVariables false
set_option linter.unusedSimpArgs false
namespace Go.Proofs.YtfjndjbpgcggkaaDoor
open Go.RowKit

instance (r : Record) : Decidable r.Okay := by unfold Record.Okay; infer_instance
/-- The bytes of a segment's records: of those that are right. -/
def segBytes : List Record → List Int
  | [] => []
  | r :: l => (if r.Okay then fput (recPut r) else []) ++ segBytes l
theorem segBytes_app (l : List Record) (r : Record) : segBytes (l ++ [r]) = segBytes l ++ (if r.Okay then fput (recPut r) else []) := by
  induction l with
  | nil => simp [segBytes]
  | cons x l ih => simp [segBytes, ih]
theorem segBytes_take (l : List Record) (k : Nat) (r : Record) (h : l[k]? = some r) : segBytes (l.take (k + 1)) = segBytes (l.take k) ++ (if r.Okay then fput (recPut r) else []) := by
  rw [List.take_add_one, h]
  exact segBytes_app _ _
theorem Bytes.app {a b : List Int} (ha : Bytes a) (hb : Bytes b) : Bytes (a ++ b) := fun c hc => (List.mem_append.1 hc).elim (ha c) (hb c)
theorem vputF_bytes : ∀ (f x : Nat), x < 128 ^ (f + 1) → Bytes (vputF f x)
  | 0, x, h => fun c hc => by
    simp only [vputF, List.mem_singleton] at hc
    omega
  | f + 1, x, h => fun c hc => by
    rw [vputF] at hc
    split at hc
    · simp only [List.mem_singleton] at hc; omega
    · rcases List.mem_cons.1 hc with hc | hc
      · omega
      · refine vputF_bytes f (x / 128) ?_ c hc
        have hp : (128 : Nat) ^ (f + 1 + 1) = 128 ^ (f + 1) * 128 := Nat.pow_succ _ _
        rw [Nat.div_lt_iff_lt_mul (by omega)]
        omega
theorem vput_bytes (x : Nat) (h : x < 18446744073709551616) : Bytes (vput x) := vputF_bytes 9 x (by omega)
theorem nums_bytes (s : ByteArray) : Bytes (numsOf s) := fun c hc => by
  obtain ⟨b, _, rfl⟩ := List.mem_map.1 hc
  have := b.toNat_lt
  omega
theorem recPut_bytes (r : Record) (h : r.Okay) : Bytes (recPut r) := by
  obtain ⟨h0, h1, h2, h3, h4, h5, h6, -⟩ := h
  unfold recPut
  refine ((((((vput_bytes _ (by omega)).app (vput_bytes _ (Okay.fold _ ⟨h2, h3⟩))).app ?_).app (vput_bytes _ (by omega))).app (nums_bytes _)).app (vput_bytes _ (by omega))).app (nums_bytes _)
  intro c hc
  simp only [List.mem_singleton] at hc
  subst hc
  split <;> omega
theorem recPut_len (r : Record) (h : r.Okay) : (recPut r).length ≤ 2241 := by
  obtain ⟨h0, h1, h2, h3, h4, h5, h6, -⟩ := h
  unfold recPut
  have a1 := vput_len r.Offset.toNat
  have a2 := vput_len (vfold r.Time)
  have a3 := vput_len r.Key.size
  have a4 := vput_len r.Value.size
  simp only [List.length_append, List.length_singleton, numsOf_length]
  omega
theorem fput_len (p : List Int) : (fput p).length ≤ 14 + p.length := by
  unfold fput
  have := vput_len p.length
  simp only [List.length_append]
  show _ + 4 + _ ≤ _
  omega
theorem segBytes_len : ∀ l : List Record, (segBytes l).length ≤ 2255 * l.length
  | [] => by simp [segBytes]
  | r :: l => by
    rw [segBytes, List.length_append, List.length_cons]
    have := segBytes_len l
    split
    · rename_i h
      have h1 := recPut_len r h
      have h2 := fput_len (recPut r)
      omega
    · simp only [List.length_nil]; omega
theorem tRecords : ElemT Tryd.prog 75 79 5 56 := ElemT.mk' (z := .agg #[.int .i64 0, .int .i64 0, .string ⟨#[]⟩, .string ⟨#[]⟩, .bool false]) Tryd.underlying75 (by kernel_rfl) rfl

set_option maxHeartbeats 8000000 in
set_option maxRecDepth 100000 in
theorem segBytes_any (A : Option Addr) (n c : Nat) (l : List Record) (w : World) (F : Foot) (hr : RS kRecord w F A n l) (hn : n ≤ 100000) :
    Calls Tryd.prog 96 #[.slice A n c] w fun e w' => ∃ v, e = .returned v ∧ Made (kInt .u8) 5 w w' (New w w') v (segBytes l) := by
  obtain rfl := hr.length
  go_enter Tryd.func96, Tryd.ntmps96
  go_wp2
  go_loopw [3, 8] (fun v q wr => ∃ (i m : Nat) (A1 : Option Addr) (c1 : Nat), q = .int .i64 i ∧ i ≤ l.length ∧ v = .slice A1 m c1 ∧ Hid (Row w wr (.slice A1 m c1) (segBytes (l.take i)) (2255 * i) ∧ True)) (fun _ q _ => l.length - (intOf q).toNat)
  case atStart => exact ⟨0, 0, none, 0, rfl, Nat.zero_le _, rfl, ⟨OwnS.nil, Below.refl _ _, by simp [segBytes]⟩, trivial⟩
  case round =>
    obtain ⟨i, m, A1, c1, rfl, hi, rfl, hO⟩ := hrel
    by_cases hlt : i < l.length
    · obtain ⟨r, hx0⟩ : ∃ r, l[i]? = some r := ⟨_, List.getElem?_eq_getElem hlt⟩
      obtain ⟨ad, hA0, hFa, k0, k1, k2, k3, k4⟩ := at_Record (hr.below hO.out.1.below) hx0
      have hx := Lib.hid hx0
      subst hA0
      have htk := Lib.hid (segBytes_take l i r hx0)
      have hil : 2255 * i ≤ 225500000 := by omega
      clear hx0
      generalize hbs0 : segBytes (l.take i) = b0 at hO htk
      have hbs := Lib.hid hbs0
      clear hbs0
      have hal : Below wr.heap.size wr (wr.alloc (.cells #[.int .i64 r.Offset, .int .i64 r.Time, .string r.Key, .string r.Value, .bool r.Dead] 79)) := (Below.refl _ _).alloc (Nat.le_refl _) _
      have hxb := Lib.hid (heap_alloc_new wr (.cells #[.int .i64 r.Offset, .int .i64 r.Time, .string r.Key, .string r.Value, .bool r.Dead] 79))
      have hqb : wr.heap.size < (wr.alloc (.cells #[.int .i64 r.Offset, .int .i64 r.Time, .string r.Key, .string r.Value, .bool r.Dead] 79)).heap.size := by simp
      have hO1 := hO.out.1.moved hal
      go_wp2_with fail
      generalize wr.alloc (.cells #[.int .i64 r.Offset, .int .i64 r.Time, .string r.Key, .string r.Value, .bool r.Dead] 79) = wb at hxb hqb hO1 ⊢
      refine (Right_any r wb).mono ?_
      rintro e w2 ⟨rb, rfl, hrb, hbl⟩
      have HO2 : Hid (Row w w2 (.slice A1 m c1) b0 (2255 * i)) := hO1.moved hbl
      have hx2 := (hbl.block _ hqb).trans hxb.out
      obtain ⟨a0, a1, a2, a3, a4⟩ := box_Record hx2
      have hq2 : wr.heap.size < w2.heap.size := (Array.getElem?_eq_some_iff.1 hx2).1
      clear hx2
      have Hrb := Lib.hid hrb
      clear hbl hrb hO1
      cases rb with
      | true =>
        have hok := Hrb.out.1 rfl
        have hlp := recPut_len r hok
        have hby := recPut_bytes r hok
        have Hok := Lib.hid hok
        have hlf := Lib.hid (fput_len (recPut r))
        clear hok
        go_wp2_with fail
        refine (recPut_any none 0 0 [] r w2 NoF RS.nil (by omega) Hok.out).mono ?_
        rintro e w3 ⟨v3, rfl, hM3⟩
        rw [List.nil_append] at hM3
        obtain ⟨p, hp⟩ : ∃ p, Hid (recPut r = p) := ⟨_, rfl⟩
        rw [hp.out] at hM3 hlp hby hlf
        obtain ⟨A3, c3, rfl, hc3, hd3, hr3⟩ := hM3.own.reads
        have HO3 : Hid (Row w w3 (.slice A1 m c1) b0 (2255 * i)) := HO2.out.moved hM3.below
        have Hr3 := Lib.hid hr3
        have Hby := Lib.hid hby
        clear hM3 hr3 hby a0 a1 a2 a3 a4 hq2
        go_wp2_with fail
        refine (fPut_any none 0 0 [] A3 p.length c3 p w3 NoF (New w2 w3) RS.nil Hr3.out (by omega) (by omega) Hby.out).mono ?_
        rintro e w4 ⟨v4, rfl, hM4⟩
        rw [List.nil_append] at hM4
        obtain ⟨pf, hpf⟩ : ∃ pf, Hid (fput p = pf) := ⟨_, rfl⟩
        rw [hpf.out] at hM4 hlf
        obtain ⟨A4, c4, rfl, hc4, hd4, hr4⟩ := hM4.own.reads
        have HO4 : Hid (Row w w4 (.slice A1 m c1) b0 (2255 * i)) := HO3.out.moved hM4.below
        obtain ⟨L4, hL4⟩ : ∃ L4, Hid (pf.length = L4) := ⟨_, rfl⟩
        have hl4 : L4 ≤ 2255 := by have := hlf.out; have := hL4.out; omega
        rw [hL4.out] at hc4 hr4 ⊢
        have hs34 : w3.heap.size ≤ w4.heap.size := hM4.below.size
        clear hM4
        go_wp2_with (first
          | (at_builtin
             refine wpList_append_S rfl tBytes (.tmp 14) (.tmp 17) rfl (K := kInt .u8) rfl rfl HO4.out.own hr4 ?_ ?_ ?_ ?_))
        · intro j hj hj2
          have h1 := (HO3.out.lt j hj).2
          have := hj2.1
          omega
        · have := HO4.out.len; omega
        · have := HO4.out.len; omega
        intro v5 w5 hA
        have HO5 := Lib.hid (HO4.out.app (Below.refl _ _) hA (m := 2255) (by rw [hL4.out]; exact hl4))
        obtain ⟨A5, m5, c5, rfl⟩ := HO5.out.own.shape
        clear hA hr4
        go_wp2
        go_roundw
        case rel =>
          refine ⟨i + 1, m5, A5, c5, by go_num, by omega, rfl, ?_, trivial⟩
          rw [htk.out, if_pos Hok.out, hp.out, hpf.out, show 2255 * (i + 1) = 2255 * i + 2255 by omega]
          exact HO5.out
        case measure => simp [intOf]; omega
      | false =>
        have hok : ¬ r.Okay := fun h => by have := Hrb.out.2 h; cases this
        clear a0 a1 a2 a3 a4 hq2
        go_wp2
        go_roundw
        case rel =>
          refine ⟨i + 1, m, A1, c1, by go_num, by omega, rfl, ?_, trivial⟩
          rw [htk.out, if_neg hok, List.append_nil]
          exact ⟨HO2.out.own, HO2.out.below, by have := HO2.out.len; omega⟩
        case measure => simp [intOf]; omega
    · obtain rfl : i = l.length := by omega
      have hl : l.take l.length = l := List.take_length
      rw [hl] at hO
      go_wp2
      go_ret
      exact ⟨_, rfl, hO.out.1.made⟩

set_option maxHeartbeats 8000000 in
set_option maxRecDepth 100000 in
theorem rBytes_any (A : Option Addr) (n c : Nat) (l : List Record) (w : World) (F : Foot) (hr : RS kRecord w F A n l) (hn : n ≤ 100000) :
    Calls Tryd.prog 47 #[.slice A n c] w fun e w' => ∃ v, e = .returned v ∧ Made (kInt .u8) 5 w w' (New w w') v (segBytes l) := by
  obtain rfl := hr.length
  go_enter Tryd.func47, Tryd.ntmps47
  go_wp2
  go_loopw [3, 4] (fun v q wr => ∃ (i m : Nat) (A1 : Option Addr) (c1 : Nat), q = .int .i64 i ∧ i ≤ l.length ∧ v = .slice A1 m c1 ∧ Hid (Row w wr (.slice A1 m c1) (segBytes (l.take i)) (2255 * i) ∧ True)) (fun _ q _ => l.length - (intOf q).toNat)
  case atStart => exact ⟨0, 0, none, 0, rfl, Nat.zero_le _, rfl, ⟨OwnS.nil, Below.refl _ _, by simp [segBytes]⟩, trivial⟩
  case round =>
    obtain ⟨i, m, A1, c1, rfl, hi, rfl, hO⟩ := hrel
    by_cases hlt : i < l.length
    · obtain ⟨r, hx0⟩ : ∃ r, l[i]? = some r := ⟨_, List.getElem?_eq_getElem hlt⟩
      obtain ⟨ad, hA0, hFa, k0, k1, k2, k3, k4⟩ := at_Record (hr.below hO.out.1.below) hx0
      have hx := Lib.hid hx0
      subst hA0
      have htk := Lib.hid (segBytes_take l i r hx0)
      have hil : 2255 * i ≤ 225500000 := by omega
      clear hx0
      generalize hbs0 : segBytes (l.take i) = b0 at hO htk
      have hbs := Lib.hid hbs0
      clear hbs0
      have hO1 := hO.out.1
      go_wp2_with fail
      have hwb : Hid (wr = wr) := rfl
      refine (rRight_any r wr).mono ?_
      rintro e w2 ⟨rb, rfl, hrb, hbl⟩
      have HO2 : Hid (Row w w2 (.slice A1 m c1) b0 (2255 * i)) := hO1.moved hbl
      obtain ⟨ad', hA1, hFa', k0, k1, k2, k3, k4⟩ := at_Record (hr.below (hO1.below.trans (hbl.mono hO1.below.size))) hx.out
      obtain rfl : ad = ad' := by injection hA1
      clear hA1
      have Hrb := Lib.hid hrb
      clear hbl hrb hO1
      cases rb with
      | true =>
        have hok := Hrb.out.1 rfl
        have hlp := recPut_len r hok
        have hby := recPut_bytes r hok
        have Hok := Lib.hid hok
        have hlf := Lib.hid (fput_len (recPut r))
        clear hok
        go_wp2_with fail
        refine (rRecPut_any none 0 0 [] r w2 NoF RS.nil (by omega) Hok.out).mono ?_
        rintro e w3 ⟨v3, rfl, hM3⟩
        rw [List.nil_append] at hM3
        obtain ⟨p, hp⟩ : ∃ p, Hid (recPut r = p) := ⟨_, rfl⟩
        rw [hp.out] at hM3 hlp hby hlf
        obtain ⟨A3, c3, rfl, hc3, hd3, hr3⟩ := hM3.own.reads
        have HO3 : Hid (Row w w3 (.slice A1 m c1) b0 (2255 * i)) := HO2.out.moved hM3.below
        have Hr3 := Lib.hid hr3
        have Hby := Lib.hid hby
        clear hM3 hr3 hby k0 k1 k2 k3 k4
        go_wp2_with fail
        refine (rFPut_any none 0 0 [] A3 p.length c3 p w3 NoF (New w2 w3) RS.nil Hr3.out (by omega) (by omega) Hby.out).mono ?_
        rintro e w4 ⟨v4, rfl, hM4⟩
        rw [List.nil_append] at hM4
        obtain ⟨pf, hpf⟩ : ∃ pf, Hid (fput p = pf) := ⟨_, rfl⟩
        rw [hpf.out] at hM4 hlf
        obtain ⟨A4, c4, rfl, hc4, hd4, hr4⟩ := hM4.own.reads
        have HO4 : Hid (Row w w4 (.slice A1 m c1) b0 (2255 * i)) := HO3.out.moved hM4.below
        obtain ⟨L4, hL4⟩ : ∃ L4, Hid (pf.length = L4) := ⟨_, rfl⟩
        have hl4 : L4 ≤ 2255 := by have := hlf.out; have := hL4.out; omega
        rw [hL4.out] at hc4 hr4 ⊢
        have hs34 : w3.heap.size ≤ w4.heap.size := hM4.below.size
        clear hM4
        go_wp2_with (first
          | (at_builtin
             refine wpList_append_S rfl tBytes (.tmp 16) (.tmp 22) rfl (K := kInt .u8) rfl rfl HO4.out.own hr4 ?_ ?_ ?_ ?_))
        · intro j hj hj2
          have h1 := (HO3.out.lt j hj).2
          have := hj2.1
          omega
        · have := HO4.out.len; omega
        · have := HO4.out.len; omega
        intro v5 w5 hA
        have HO5 := Lib.hid (HO4.out.app (Below.refl _ _) hA (m := 2255) (by rw [hL4.out]; exact hl4))
        obtain ⟨A5, m5, c5, rfl⟩ := HO5.out.own.shape
        clear hA hr4
        go_wp2
        go_roundw
        case rel =>
          refine ⟨i + 1, m5, A5, c5, by go_num, by omega, rfl, ?_, trivial⟩
          rw [htk.out, if_pos Hok.out, hp.out, hpf.out, show 2255 * (i + 1) = 2255 * i + 2255 by omega]
          exact HO5.out
        case measure => simp [intOf]; omega
      | false =>
        have hok : ¬ r.Okay := fun h => by have := Hrb.out.2 h; cases this
        clear k0 k1 k2 k3 k4
        go_wp2
        go_roundw
        case rel =>
          refine ⟨i + 1, m, A1, c1, by go_num, by omega, rfl, ?_, trivial⟩
          rw [htk.out, if_neg hok, List.append_nil]
          exact ⟨HO2.out.own, HO2.out.below, by have := HO2.out.len; omega⟩
        case measure => simp [intOf]; omega
    · obtain rfl : i = l.length := by omega
      have hl : l.take l.length = l := List.take_length
      rw [hl] at hO
      go_wp2
      go_ret
      exact ⟨_, rfl, hO.out.1.made⟩
end Go.Proofs.YtfjndjbpgcggkaaDoor
