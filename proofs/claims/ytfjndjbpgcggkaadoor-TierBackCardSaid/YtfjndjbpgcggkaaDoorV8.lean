/- segment.From, the program's and the document's; SameRecords. Printed by gen_v8.py (own work). -/
import Derived.Test.YtfjndjbpgcggkaaDoorV7
import Derived.Test.YtfjndjbpgcggkaaDoorTQ2
set_option linter.unusedVariables false
set_option linter.unusedSimpArgs false
namespace Go.Proofs.YtfjndjbpgcggkaaDoor
open Go.RowKit

/-- A bool that tells whether p. -/
def Tells (p : Prop) (w : World) (e : Ending) (w' : World) : Prop := ∃ r : Bool, e = .returned (.bool r) ∧ (r = true ↔ p) ∧ Below w.heap.size w w'

set_option maxHeartbeats 1000000 in
theorem SameRecords_any (A B : Option Addr) (n m c d : Nat) (xs ys : List Record) (F G : Foot) (w : World) (hx : RS kRecord w F A n xs) (hy : RS kRecord w G B m ys) (hn : n ≤ 140737488355328) (hm : m ≤ 140737488355328) :
    Calls Tryd.prog 48 #[.slice A n c, .slice B m d] w (Tells (xs = ys) w) := by
  obtain rfl := hx.length
  obtain rfl := hy.length
  by_cases hl : xs.length = ys.length
  · go_enter Tryd.func48, Tryd.ntmps48
    go_wp2
    go_loopw [5] (fun q wr => ∃ k : Nat, q = .int .i64 k ∧ k ≤ xs.length ∧ Hid (xs.take k = ys.take k) ∧ Below w.heap.size w wr) (fun q _ => xs.length - (intOf q).toNat)
    case atStart => exact ⟨0, rfl, Nat.zero_le _, rfl, Below.refl _ _⟩
    case round =>
      obtain ⟨k, rfl, hk, hE, hB⟩ := hrel
      by_cases hlt : k < xs.length
      · obtain ⟨x, hxk⟩ : ∃ x, xs[k]? = some x := ⟨_, List.getElem?_eq_getElem hlt⟩
        obtain ⟨y, hyk⟩ : ∃ y, ys[k]? = some y := ⟨_, List.getElem?_eq_getElem (by omega)⟩
        obtain ⟨ad, hA0, hFa, k0, k1, k2, k3, k4⟩ := at_Record (hx.below hB) hxk
        obtain ⟨bd, hB0, hFb, l0, l1, l2, l3, l4⟩ := at_Record (hy.below hB) hyk
        have HA0 := Lib.hid hA0
        have HB0 := Lib.hid hB0
        rw [hA0, hB0]
        clear hA0 hB0
        have hlt2 : k < ys.length := by omega
        clear hl
        obtain ⟨r, hr, _, hneq⟩ := eq_Record x y
        have hgd := guard_Record
        have Hr := Lib.hid hr
        clear hr
        cases r
        · go_wp2
          go_quiet (fail)
          go_wp2
          go_ret
          refine ⟨false, rfl, ?_, hB.trans ((drawn_below wr nq).mono hB.size)⟩
          simp only [Bool.false_eq_true, false_iff]
          intro he
          have := Hr.out
          rw [he, hyk] at hxk
          injection hxk with hxk
          simp [hxk] at this
        · go_wp2
          go_quiet (fail)
          go_wp2
          go_roundw
          case rel =>
            refine ⟨k + 1, by go_num, by omega, ?_, hB.trans ((drawn_below wr nq).mono hB.size)⟩
            have he := hE.out
            show xs.take (k + 1) = ys.take (k + 1)
            rw [List.take_add_one, List.take_add_one, he, hxk, hyk, show x = y from by simpa using Hr.out]
          case measure => simp [intOf]; omega
      · obtain rfl : k = xs.length := by omega
        go_wp2
        go_ret
        refine ⟨true, rfl, ?_, hB⟩
        simp only [true_iff]
        have he := hE.out
        rw [List.take_of_length_le (Nat.le_refl _), List.take_of_length_le (by omega)] at he
        exact he
  · have hne : xs ≠ ys := fun h => hl (by rw [h])
    have hlb : ((xs.length : Int) != (ys.length : Int)) = true := by rw [bne_iff_ne]; omega
    go_enter Tryd.func48, Tryd.ntmps48
    go_wp2
    go_ret
    exact ⟨false, rfl, by simp [hne], Below.refl _ _⟩

theorem clipR_any (A : Option Addr) (n c : Nat) (w : World) (hn : n ≤ c) :
    Calls Tryd.prog 144 #[.slice A n c] w fun e w' => e = .returned (.slice A n n) ∧ w = w' := by
  have hcut := cut_him tRecords .i64 .i64 A n c n n (Nat.le_refl _) hn
  go_enter Tryd.func144, Tryd.ntmps144
  go_wp2
  go_ret
  exact ⟨rfl, rfl⟩

/-- Records from an offset on, so many at most. -/
def recFrom (l : List Record) (off mx : Int) : List Record := (l.filter fun r => decide (off ≤ r.Offset)).take mx.toNat
theorem recFrom_step (l : List Record) (off mx : Int) (i : Nat) (r : Record) (h : l[i]? = some r) :
    recFrom (l.take (i + 1)) off mx = if off ≤ r.Offset ∧ ((recFrom (l.take i) off mx).length : Int) < mx then recFrom (l.take i) off mx ++ [r] else recFrom (l.take i) off mx := by
  unfold recFrom
  rw [List.take_add_one, h, List.filter_append]
  generalize (l.take i).filter (fun r => decide (off ≤ r.Offset)) = fs
  by_cases h1 : off ≤ r.Offset
  · have e1 : (some r).toList.filter (fun r => decide (off ≤ r.Offset)) = [r] := by simp [h1]
    rw [e1]
    by_cases h2 : fs.length < mx.toNat
    · rw [if_pos ⟨h1, by rw [List.length_take]; omega⟩, List.take_of_length_le (by rw [List.length_append, List.length_singleton]; omega), List.take_of_length_le (by omega)]
    · rw [if_neg (by rw [List.length_take]; omega), List.take_append_of_le_length (by omega)]
  · have e1 : (some r).toList.filter (fun r => decide (off ≤ r.Offset)) = [] := by simp [h1]
    rw [e1, List.append_nil, if_neg (fun h => h1 h.1)]
theorem recFrom_full (l : List Record) (off mx : Int) (i : Nat) (h : mx ≤ ((recFrom (l.take i) off mx).length : Int)) : recFrom (l.take i) off mx = recFrom l off mx := by
  unfold recFrom at h ⊢
  rw [List.length_take] at h
  conv => rhs; rw [← List.take_append_drop i l, List.filter_append]
  rw [List.take_append_of_le_length (by omega)]
def FromPost (w : World) (rs : List Record) (e : Ending) (w' : World) : Prop := ∃ A' c', e = .returned (.slice A' rs.length c') ∧ RS kRecord w' (New w w') A' rs.length rs ∧ Below w.heap.size w w'
structure RowR (w wr : World) (v : Value) (rs : List Record) (n : Nat) : Prop where
  own : OwnS kRecord 79 wr (New w wr) v rs
  below : Below w.heap.size w wr
  len : rs.length = n
theorem RowR.moved {w wr w' : World} {v : Value} {bs : List Record} {n : Nat} (h : RowR w wr v bs n) (hb : Below wr.heap.size wr w') : RowR w w' v bs n :=
  ⟨(h.own.below hb).mono fun k hk => ⟨hk.1, Nat.lt_of_lt_of_le hk.2 hb.size⟩, h.below.trans (hb.mono h.below.size), h.len⟩
theorem RowR.app {w wr wl w' : World} {F G : Foot} {v v' : Value} {bs : List Record} {r : Record} {n : Nat} (h : RowR w wr v bs n) (hl : Below wr.heap.size wr wl) (hA : Appended kRecord 79 wl w' F G v v' (bs ++ [r])) : RowR w w' v' (bs ++ [r]) (n + 1) := by
  have hs := h.below.size
  have hs2 := hl.size
  have hlt : ∀ k, v.ownBlock = some k → w.heap.size ≤ k := fun k hk => (h.own.lt k hk).1.1
  refine ⟨OwnS.flat (G := New w w') flat_Record hA.own fun j hj => ?_, (h.below.trans (hl.mono hs)).grown hA.grown (by omega) hlt, by rw [List.length_append, h.len]; rfl⟩
  refine ⟨?_, (hA.own.lt j hj).2⟩
  rcases hA.lies j hj with h1 | h1
  · exact hlt j h1
  · have := h1.1; omega
theorem lit1R (W : World) (r : Record) : RS kRecord (W.alloc (.cells #[.int .i64 r.Offset, .int .i64 r.Time, .string r.Key, .string r.Value, .bool r.Dead] 79)) (fun j => j = W.heap.size) (some ⟨W.heap.size, 0, none⟩) 1 [r] :=
  (RS.lit W (F := NoF) (xs := [r]) (Elems.single (K := kRecord) rfl)).mono fun j hj => hj.resolve_left id

set_option maxHeartbeats 8000000 in
set_option maxRecDepth 100000 in
theorem segFrom_any (A : Option Addr) (n c : Nat) (l : List Record) (off mx : Int) (w : World) (F : Foot) (hr : RS kRecord w F A n l) (hn : n ≤ 100000) :
    Calls Tryd.prog 102 #[.slice A n c, .int .i64 off, .int .i64 mx] w (FromPost w (recFrom l off mx)) := by
  obtain rfl := hr.length
  go_enter Tryd.func102, Tryd.ntmps102
  go_wp2
  go_loopw [7, 12] (fun v q wr => ∃ (i m : Nat) (A1 : Option Addr) (c1 : Nat), q = .int .i64 i ∧ i ≤ l.length ∧ v = .slice A1 m c1 ∧ m ≤ i ∧ Hid (RowR w wr (.slice A1 m c1) (recFrom (l.take i) off mx) m ∧ True)) (fun _ q _ => l.length - (intOf q).toNat)
  case atStart => exact ⟨0, 0, none, 0, rfl, Nat.zero_le _, rfl, Nat.le_refl _, ⟨by simp [recFrom]; exact OwnS.nil, Below.refl _ _, by simp [recFrom]⟩, trivial⟩
  case round =>
    obtain ⟨i, m, A1, c1, rfl, hi, rfl, hmi, hO⟩ := hrel
    by_cases hlt : i < l.length
    · obtain ⟨r, hx0⟩ : ∃ r, l[i]? = some r := ⟨_, List.getElem?_eq_getElem hlt⟩
      obtain ⟨ad, hA0, hFa, k0, k1, k2, k3, k4⟩ := at_Record (hr.below hO.out.1.below) hx0
      subst hA0
      have hst := recFrom_step l off mx i r hx0
      rw [hO.out.1.len] at hst
      have hfull := fun h => recFrom_full l off mx i h
      rw [hO.out.1.len] at hfull
      have Hst := Lib.hid (And.intro hst hfull)
      clear hx0 hst hfull
      generalize hbs0 : recFrom (l.take i) off mx = b0 at hO Hst
      clear hbs0
      have hal : Below wr.heap.size wr (wr.alloc (.cells #[.int .i64 r.Offset, .int .i64 r.Time, .string r.Key, .string r.Value, .bool r.Dead] 79)) := (Below.refl _ _).alloc (Nat.le_refl _) _
      by_cases hoff : off ≤ r.Offset
      · by_cases hmx : (m : Int) < mx
        · have hr2 := lit1R (wr.alloc (.cells #[.int .i64 r.Offset, .int .i64 r.Time, .string r.Key, .string r.Value, .bool r.Dead] 79)) r
          simp only [World.size_alloc] at hr2
          have hbl : Below (wr.alloc (.cells #[.int .i64 r.Offset, .int .i64 r.Time, .string r.Key, .string r.Value, .bool r.Dead] 79)).heap.size (wr.alloc (.cells #[.int .i64 r.Offset, .int .i64 r.Time, .string r.Key, .string r.Value, .bool r.Dead] 79)) ((wr.alloc (.cells #[.int .i64 r.Offset, .int .i64 r.Time, .string r.Key, .string r.Value, .bool r.Dead] 79)).alloc (.cells #[.int .i64 r.Offset, .int .i64 r.Time, .string r.Key, .string r.Value, .bool r.Dead] 79)) := (Below.refl _ _).alloc (Nat.le_refl _) _
          have hO0 := hO.out.1.moved hal
          have hO3 := hO0.own.below hbl
          go_wp2_with (first
            | (at_builtin
               refine wpList_append_S rfl tRecords (.tmp 26) (.tmp 28) rfl (K := kRecord) rfl rfl hO3 hr2 ?_ ?_ ?_ ?_))
          · intro j hj hj2
            have h1 := (hO0.own.lt j hj).1.2
            have h2 : j = (wr.alloc (.cells #[.int .i64 r.Offset, .int .i64 r.Time, .string r.Key, .string r.Value, .bool r.Dead] 79)).heap.size := hj2.trans (World.size_alloc _ _).symm
            omega
          · have := hO0.len; omega
          · have := hO0.len; omega
          intro v4 w4 hA
          have HO4 := Lib.hid (hO0.app hbl hA)
          obtain ⟨A4, m4, c4, rfl⟩ := HO4.out.own.shape
          have hm4 : m4 = m + 1 := by
            obtain ⟨A', c', e', _⟩ := HO4.out.own.slice
            injection e' with _ e' _
            rw [e', HO4.out.len]
          subst hm4
          clear hA hr2 hbl hO3 hO0
          go_wp2
          go_roundw
          case rel =>
            refine ⟨i + 1, m + 1, A4, c4, by go_num, by omega, rfl, by omega, ?_, trivial⟩
            rw [Hst.out.1, if_pos ⟨hoff, hmx⟩]
            exact HO4.out
          case measure => simp [intOf]; omega
        · go_wp2
          go_roundw
          case rel =>
            refine ⟨i + 1, m, A1, c1, by go_num, by omega, rfl, by omega, ?_, trivial⟩
            rw [Hst.out.1, if_neg (fun h => hmx h.2)]
            exact hO.out.1.moved hal
          case measure => simp [intOf]; omega
      · go_wp2
        go_roundw
        case rel =>
          refine ⟨i + 1, m, A1, c1, by go_num, by omega, rfl, by omega, ?_, trivial⟩
          rw [Hst.out.1, if_neg (fun h => hoff h.1)]
          exact hO.out.1.moved hal
        case measure => simp [intOf]; omega
    · obtain rfl : i = l.length := by omega
      have hl : l.take l.length = l := List.take_length
      rw [hl] at hO
      obtain ⟨A', c', e', -, -, hrr⟩ := hO.out.1.own.reads
      injection e' with e1 e2 e3
      subst e1 e3
      have HX := Lib.hid (And.intro hrr (And.intro hO.out.1.below e2))
      have hmc : m ≤ c1 := by
        obtain ⟨A', c', e', h1, _⟩ := hO.out.1.own.reads
        injection e' with _ e4 e5
        omega
      clear hrr e2
      go_wp2_with fail
      refine (clipR_any A1 m c1 wr hmc).mono ?_
      rintro e w5 ⟨rfl, hw⟩
      rw [← hw]
      clear hw w5
      go_wp2
      go_ret
      refine ⟨A1, m, by rw [← HX.out.2.2]; rfl, HX.out.1, HX.out.2.1⟩

set_option maxHeartbeats 8000000 in
set_option maxRecDepth 100000 in
theorem rFrom_any (A : Option Addr) (n c : Nat) (l : List Record) (off mx : Int) (w : World) (F : Foot) (hr : RS kRecord w F A n l) (hn : n ≤ 100000) :
    Calls Tryd.prog 49 #[.slice A n c, .int .i64 off, .int .i64 mx] w (FromPost w (recFrom l off mx)) := by
  obtain rfl := hr.length
  go_enter Tryd.func49, Tryd.ntmps49
  go_wp2
  go_loopw [7, 8] (fun v q wr => ∃ (i m : Nat) (A1 : Option Addr) (c1 : Nat), q = .int .i64 i ∧ i ≤ l.length ∧ v = .slice A1 m c1 ∧ m ≤ i ∧ Hid (RowR w wr (.slice A1 m c1) (recFrom (l.take i) off mx) m ∧ True)) (fun _ q _ => l.length - (intOf q).toNat)
  case atStart => exact ⟨0, 0, none, 0, rfl, Nat.zero_le _, rfl, Nat.le_refl _, ⟨by simp [recFrom]; exact OwnS.nil, Below.refl _ _, by simp [recFrom]⟩, trivial⟩
  case round =>
    obtain ⟨i, m, A1, c1, rfl, hi, rfl, hmi, hO⟩ := hrel
    by_cases hlt : i < l.length
    · obtain ⟨r, hx0⟩ : ∃ r, l[i]? = some r := ⟨_, List.getElem?_eq_getElem hlt⟩
      obtain ⟨ad, hA0, hFa, k0, k1, k2, k3, k4⟩ := at_Record (hr.below hO.out.1.below) hx0
      subst hA0
      have hst := recFrom_step l off mx i r hx0
      rw [hO.out.1.len] at hst
      have hfull := fun h => recFrom_full l off mx i h
      rw [hO.out.1.len] at hfull
      have Hst := Lib.hid (And.intro hst hfull)
      clear hx0 hst hfull
      generalize hbs0 : recFrom (l.take i) off mx = b0 at hO Hst
      clear hbs0
      by_cases hoff : off ≤ r.Offset
      · by_cases hmx : (m : Int) < mx
        · have hr2 := lit1R wr r
          skip
          have hbl : Below wr.heap.size wr (wr.alloc (.cells #[.int .i64 r.Offset, .int .i64 r.Time, .string r.Key, .string r.Value, .bool r.Dead] 79)) := (Below.refl _ _).alloc (Nat.le_refl _) _
          have hO0 := hO.out.1
          have hO3 := hO0.own.below hbl
          go_wp2_with (first
            | (at_builtin
               refine wpList_append_S rfl tRecords (.tmp 28) (.tmp 33) rfl (K := kRecord) rfl rfl hO3 hr2 ?_ ?_ ?_ ?_))
          · intro j hj hj2
            have h1 := (hO0.own.lt j hj).1.2
            have h2 : j = wr.heap.size := hj2
            omega
          · have := hO0.len; omega
          · have := hO0.len; omega
          intro v4 w4 hA
          have HO4 := Lib.hid (hO0.app hbl hA)
          obtain ⟨A4, m4, c4, rfl⟩ := HO4.out.own.shape
          have hm4 : m4 = m + 1 := by
            obtain ⟨A', c', e', _⟩ := HO4.out.own.slice
            injection e' with _ e' _
            rw [e', HO4.out.len]
          subst hm4
          clear hA hr2 hbl hO3 hO0
          go_wp2
          go_roundw
          case rel =>
            refine ⟨i + 1, m + 1, A4, c4, by go_num, by omega, rfl, by omega, ?_, trivial⟩
            rw [Hst.out.1, if_pos ⟨hoff, hmx⟩]
            exact HO4.out
          case measure => simp [intOf]; omega
        · have hfl := Hst.out.2 (by omega)
          subst hfl
          obtain ⟨A', c', e', -, -, hrr⟩ := hO.out.1.own.reads
          injection e' with e1 e2 e3
          subst e1 e3
          have HX := Lib.hid (And.intro hrr (And.intro hO.out.1.below e2))
          clear hrr e2
          go_wp2
          go_ret
          refine ⟨A1, c1, by rw [← HX.out.2.2]; rfl, HX.out.1, HX.out.2.1⟩
      · by_cases hmx : (m : Int) < mx
        · go_wp2
          go_roundw
          case rel =>
            refine ⟨i + 1, m, A1, c1, by go_num, by omega, rfl, by omega, ?_, trivial⟩
            rw [Hst.out.1, if_neg (fun h => hoff h.1)]
            exact hO.out.1
          case measure => simp [intOf]; omega
        · have hfl := Hst.out.2 (by omega)
          subst hfl
          obtain ⟨A', c', e', -, -, hrr⟩ := hO.out.1.own.reads
          injection e' with e1 e2 e3
          subst e1 e3
          have HX := Lib.hid (And.intro hrr (And.intro hO.out.1.below e2))
          clear hrr e2
          go_wp2
          go_ret
          refine ⟨A1, c1, by rw [← HX.out.2.2]; rfl, HX.out.1, HX.out.2.1⟩
    · obtain rfl : i = l.length := by omega
      have hl : l.take l.length = l := List.take_length
      rw [hl] at hO
      obtain ⟨A', c', e', -, -, hrr⟩ := hO.out.1.own.reads
      injection e' with e1 e2 e3
      subst e1 e3
      have HX := Lib.hid (And.intro hrr (And.intro hO.out.1.below e2))
      clear hrr e2
      go_wp2
      go_ret
      refine ⟨A1, c1, by rw [← HX.out.2.2]; rfl, HX.out.1, HX.out.2.1⟩

end Go.Proofs.YtfjndjbpgcggkaaDoor
