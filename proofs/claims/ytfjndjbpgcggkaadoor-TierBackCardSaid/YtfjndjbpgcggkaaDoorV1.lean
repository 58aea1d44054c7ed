/- varint.Put, the program's and the document's. Printed by gen_v1.py (own work). -/
import Derived.Test.YtfjndjbpgcggkaaDoorKB
import Derived.Lib.Hide
set_option linter.unusedVariables false
set_option linter.unusedSimpArgs false
namespace Go.Proofs.YtfjndjbpgcggkaaDoor
open Go.RowKit

/-- A number's bytes: seven bits each, the lowest first. -/
def vputF : Nat → Nat → List Int
  | 0, x => [(x : Int)]
  | f + 1, x => if x < 128 then [(x : Int)] else ((x % 128 + 128 : Nat) : Int) :: vputF f (x / 128)
def vput (x : Nat) : List Int := vputF 9 x
theorem or128 (y : Nat) : bits .or .u8 ((y : Int) % 256) 128 = ((y % 128 + 128 : Nat) : Int) := by
  have h : ∀ z : Fin 256, bits .or .u8 ((z : Nat) : Int) 128 = ((z.1 % 128 + 128 : Nat) : Int) := by decide +kernel
  have h1 : (y : Int) % 256 = ((⟨y % 256, Nat.mod_lt _ (by omega)⟩ : Fin 256).1 : Nat) := by show (y : Int) % 256 = ((y % 256 : Nat) : Int); omega
  rw [h1, h]
  show ((y % 256 % 128 + 128 : Nat) : Int) = _
  rw [Nat.mod_mod_of_dvd y (by decide)]
theorem or128b (y : Nat) : bits .or .u8 ((y : Int) % 128) 128 = ((y % 128 + 128 : Nat) : Int) := by
  have := or128 (y % 128)
  rw [Nat.mod_mod] at this
  rw [← this]
  congr 1
  omega
theorem and127 (y : Nat) (hy : y < 18446744073709551616) : bits .and .u64 (y : Int) 127 = ((y % 128 : Nat) : Int) := by
  have h3 : (BitVec.ofInt 64 127).toNat = 2 ^ 7 - 1 := by decide
  have key : (BitVec.ofInt 64 (y : Int) &&& BitVec.ofInt 64 127).toNat = y % 2 ^ 7 := by
    rw [BitVec.toNat_and, BitVec.toNat_ofInt, h3, Nat.and_two_pow_sub_one_eq_mod]
    congr 1
    omega
  show IntKind.u64.wrap ((BitVec.ofInt 64 (y : Int) &&& BitVec.ofInt 64 127).toNat : Nat) = _
  rw [key]
  show (((y % 2 ^ 7 : Nat) : Int)) % 18446744073709551616 = _
  omega

set_option maxHeartbeats 4000000 in
set_option maxRecDepth 100000 in
theorem vPut_any (A : Option Addr) (n c : Nat) (bs : List Int) (x : Nat) (w : World) (F : Foot) (hb : RS (kInt .u8) w F A n bs) (hn : n ≤ 1000000000000) (hx : x < 18446744073709551616) :
    Calls Tryd.prog 125 #[.slice A n c, .int .u64 x] w fun e w' => ∃ v, e = .returned v ∧ Made (kInt .u8) 5 w w' (New w w') v (bs ++ vput x) := by
  have hr1 := hb
  go_enter Tryd.func125, Tryd.ntmps125
  go_wp2_with (first
    | (at_builtin
       refine wpList_append_S rfl tBytes _ (.tmp 6) rfl (K := kInt .u8) (F := NoF) (v := .slice none 0 0) (xs := []) rfl rfl OwnS.nil hr1 (fun k hk => by simp [Value.ownBlock] at hk) ?_ ?_ ?_))
  · (try simp); omega
  · (try simp); omega
  intro v1 w1 hA
  have hls : ∀ j, v1.ownBlock = some j → w.heap.size ≤ j := fun j hj => by
    rcases hA.lies j hj with h | h
    · simp [Value.ownBlock] at h
    · exact h.1
  have hO1 : OwnS (kInt .u8) 5 w1 (New w w1) v1 bs := hA.own.flat (flat_int _) fun j hj => ⟨hls j hj, (hA.own.lt j hj).2⟩
  have hb1 : Below w.heap.size w w1 := (Below.refl _ _).grown hA.grown (Nat.le_refl _) (by simp [Value.ownBlock])
  obtain ⟨A1, n1, c1, rfl⟩ := hO1.shape
  have H1 := Lib.hid (And.intro hO1 hb1)
  clear hA hls hO1 hb1 hr1
  go_wp2
  go_loopw [5, 1] (fun v q wr => ∃ (f y m : Nat) (A' : Option Addr) (c' : Nat) (bs' : List Int), q = .int .u64 y ∧ y < 128 ^ (f + 1) ∧ y < 18446744073709551616 ∧ v = .slice A' m c' ∧ Hid (OwnS (kInt .u8) 5 wr (New w wr) (.slice A' m c') bs' ∧ Below w.heap.size w wr ∧ bs' ++ vputF f y = bs ++ vput x ∧ m + f = n + 9)) (fun _ q _ => (intOf q).toNat)
  case atStart =>
    refine ⟨9, x, n1, A1, c1, bs, rfl, by omega, hx, rfl, H1.out.1, H1.out.2, rfl, ?_⟩
    obtain ⟨A', c', e', _⟩ := H1.out.1.reads
    injection e' with _ e' _
    rw [e', hb.length]
  case round =>
    obtain ⟨f, y, m, A', c', bs', rfl, hy, hy2, rfl, hH⟩ := hrel
    have hm9 : m ≤ n + 9 := by have := hH.out.2.2.2; omega
    have hlen : Hid (bs'.length = m) := by
      obtain ⟨A2, c2, e', _⟩ := hH.out.1.reads
      injection e' with _ e' _
      exact e'.symm

    by_cases hlt : 128 ≤ y
    · obtain ⟨u, hu⟩ : ∃ u, Hid (bits .or .u8 ((y : Int) % 256) 128 = u) := ⟨_, rfl⟩
      have hr2 : RS (kInt .u8) (wr.alloc (.cells #[.int .u8 (bits .or .u8 ((y : Int) % 256) 128)] 5)) (fun j => j = wr.heap.size) (some ⟨wr.heap.size, 0, none⟩) 1 [bits .or .u8 ((y : Int) % 256) 128] := lit1 .u8 5 wr _
      have hO3 := hH.out.1.below ((Below.refl wr.heap.size wr).alloc (Nat.le_refl _) (.cells #[.int .u8 (bits .or .u8 ((y : Int) % 256) 128)] 5))
      clear hb
      go_wp2_with (first
        | (at_builtin
           refine wpList_append_S rfl tBytes (.tmp 10) (.tmp 14) rfl (K := kInt .u8) rfl rfl hO3 hr2 ?_ ?_ ?_ ?_))
      · intro j hj hj2
        have h1 : j < wr.heap.size := (hH.out.1.lt j hj).2
        have h2 : j = wr.heap.size := hj2
        omega
      · have := hlen.out; omega
      · have := hlen.out; omega
      intro v4 w4 hA
      have hs4 := hA.grown.size
      rw [World.size_alloc] at hs4
      have hn4 := hH.out.2.1.size
      have hO4 : OwnS (kInt .u8) 5 w4 (New w w4) v4 (bs' ++ [bits .or .u8 ((y : Int) % 256) 128]) := (hA.own.flat (flat_int _) fun j hj => by
        have hlt := (hA.own.lt j hj).2
        refine ⟨?_, hlt⟩
        rcases hA.lies j hj with h | h
        · exact (hH.out.1.lt j h).1.1
        · have := h.1; rw [World.size_alloc] at this; omega)
      have hb4 : Below w.heap.size w w4 := (hH.out.2.1.alloc (by omega) _).grown hA.grown (by rw [World.size_alloc]; omega) (fun j hj => (hH.out.1.lt j hj).1.1)
      obtain ⟨A7, n7, c7, rfl⟩ := hO4.shape
      have hn7 : n7 = m + 1 := by
        obtain ⟨A', c', e', _⟩ := hO4.slice
        injection e' with _ e' _
        rw [e', List.length_append, hlen.out]
        rfl
      subst hn7
      have HQ := Lib.hid (And.intro hO4 hb4)
      clear hA hO3 hO4 hb4 hr2
      go_wp2
      go_roundw
      case rel =>
        obtain ⟨f', rfl⟩ : ∃ f', f = f' + 1 := by
          cases f with
          | zero => omega
          | succ f' => exact ⟨f', rfl⟩
        have hpow : (128 : Nat) ^ (f' + 1 + 1) = 128 ^ (f' + 1) * 128 := Nat.pow_succ _ _
        refine ⟨f', y / 128, m + 1, A7, c7, bs' ++ [bits .or .u8 ((y : Int) % 256) 128], by simp only [Value.int.injEq, true_and]; omega, by rw [Nat.div_lt_iff_lt_mul (by omega)]; omega, by omega, rfl, HQ.out.1, HQ.out.2, ?_, by have := hH.out.2.2.2; omega⟩
        rw [← hH.out.2.2.1]
        conv => rhs; rw [vputF]
        rw [if_neg (by omega), or128]
        simp
      case measure => simp [intOf]; omega
    · have hr2 : RS (kInt .u8) (wr.alloc (.cells #[.int .u8 y] 5)) (fun j => j = wr.heap.size) (some ⟨wr.heap.size, 0, none⟩) 1 [(y : Int)] := lit1 .u8 5 wr _
      have hO3 := hH.out.1.below ((Below.refl wr.heap.size wr).alloc (Nat.le_refl _) (.cells #[.int .u8 y] 5))
      clear hb
      go_wp2_with (first
        | (at_builtin
           refine wpList_append_S rfl tBytes (.tmp 18) (.tmp 21) rfl (K := kInt .u8) rfl rfl hO3 hr2 ?_ ?_ ?_ ?_))
      · intro j hj hj2
        have h1 : j < wr.heap.size := (hH.out.1.lt j hj).2
        have h2 : j = wr.heap.size := hj2
        omega
      · have := hlen.out; omega
      · have := hlen.out; omega
      intro v4 w4 hA
      have hs4 := hA.grown.size
      rw [World.size_alloc] at hs4
      have hn4 := hH.out.2.1.size
      have hO4 : OwnS (kInt .u8) 5 w4 (New w w4) v4 (bs' ++ [(y : Int)]) := (hA.own.flat (flat_int _) fun j hj => by
        have hlt := (hA.own.lt j hj).2
        refine ⟨?_, hlt⟩
        rcases hA.lies j hj with h | h
        · exact (hH.out.1.lt j h).1.1
        · have := h.1; rw [World.size_alloc] at this; omega)
      have hb4 : Below w.heap.size w w4 := (hH.out.2.1.alloc (by omega) _).grown hA.grown (by rw [World.size_alloc]; omega) (fun j hj => (hH.out.1.lt j hj).1.1)
      have HQ := Lib.hid (And.intro hO4 hb4)
      clear hA hO3 hO4 hb4 hr2
      go_wp2
      go_ret
      have hv : vputF f y = [(y : Int)] := by
        cases f with
        | zero => rfl
        | succ f' => rw [vputF, if_pos (by omega)]
      rw [← hH.out.2.2.1, hv]
      exact ⟨_, rfl, HQ.out.1, fun k hk => (HQ.out.1.lt k hk).1.1, HQ.out.2⟩

set_option maxHeartbeats 4000000 in
set_option maxRecDepth 100000 in
theorem rPut_any (A : Option Addr) (n c : Nat) (bs : List Int) (x : Nat) (w : World) (F : Foot) (hb : RS (kInt .u8) w F A n bs) (hn : n ≤ 1000000000000) (hx : x < 18446744073709551616) :
    Calls Tryd.prog 145 #[.slice A n c, .int .u64 x] w fun e w' => ∃ v, e = .returned v ∧ Made (kInt .u8) 5 w w' (New w w') v (bs ++ vput x) := by
  have hr1 := hb
  go_enter Tryd.func145, Tryd.ntmps145
  go_wp2_with (first
    | (at_builtin
       refine wpList_append_S rfl tBytes _ (.tmp 5) rfl (K := kInt .u8) (F := NoF) (v := .slice none 0 0) (xs := []) rfl rfl OwnS.nil hr1 (fun k hk => by simp [Value.ownBlock] at hk) ?_ ?_ ?_))
  · (try simp); omega
  · (try simp); omega
  intro v1 w1 hA
  have hls : ∀ j, v1.ownBlock = some j → w.heap.size ≤ j := fun j hj => by
    rcases hA.lies j hj with h | h
    · simp [Value.ownBlock] at h
    · exact h.1
  have hO1 : OwnS (kInt .u8) 5 w1 (New w w1) v1 bs := hA.own.flat (flat_int _) fun j hj => ⟨hls j hj, (hA.own.lt j hj).2⟩
  have hb1 : Below w.heap.size w w1 := (Below.refl _ _).grown hA.grown (Nat.le_refl _) (by simp [Value.ownBlock])
  obtain ⟨A1, n1, c1, rfl⟩ := hO1.shape
  have H1 := Lib.hid (And.intro hO1 hb1)
  clear hA hls hO1 hb1 hr1
  go_wp2
  go_loopw [0, 1] (fun v q wr => ∃ (f y m : Nat) (A' : Option Addr) (c' : Nat) (bs' : List Int), q = .int .u64 y ∧ y < 128 ^ (f + 1) ∧ y < 18446744073709551616 ∧ v = .slice A' m c' ∧ Hid (OwnS (kInt .u8) 5 wr (New w wr) (.slice A' m c') bs' ∧ Below w.heap.size w wr ∧ bs' ++ vputF f y = bs ++ vput x ∧ m + f = n + 9)) (fun _ q _ => (intOf q).toNat)
  case atStart =>
    refine ⟨9, x, n1, A1, c1, bs, rfl, by omega, hx, rfl, H1.out.1, H1.out.2, rfl, ?_⟩
    obtain ⟨A', c', e', _⟩ := H1.out.1.reads
    injection e' with _ e' _
    rw [e', hb.length]
  case round =>
    obtain ⟨f, y, m, A', c', bs', rfl, hy, hy2, rfl, hH⟩ := hrel
    have hm9 : m ≤ n + 9 := by have := hH.out.2.2.2; omega
    have hlen : Hid (bs'.length = m) := by
      obtain ⟨A2, c2, e', _⟩ := hH.out.1.reads
      injection e' with _ e' _
      exact e'.symm
    have hand := and127 y hy2
    by_cases hlt : 128 ≤ y
    · obtain ⟨u, hu⟩ : ∃ u, Hid (bits .or .u8 ((y : Int) % 128) 128 = u) := ⟨_, rfl⟩
      have hr2 : RS (kInt .u8) (wr.alloc (.cells #[.int .u8 (bits .or .u8 ((y : Int) % 128) 128)] 5)) (fun j => j = wr.heap.size) (some ⟨wr.heap.size, 0, none⟩) 1 [bits .or .u8 ((y : Int) % 128) 128] := lit1 .u8 5 wr _
      have hO3 := hH.out.1.below ((Below.refl wr.heap.size wr).alloc (Nat.le_refl _) (.cells #[.int .u8 (bits .or .u8 ((y : Int) % 128) 128)] 5))
      clear hb
      go_wp2_with (first
        | (at_builtin
           refine wpList_append_S rfl tBytes (.tmp 9) (.tmp 14) rfl (K := kInt .u8) rfl rfl hO3 hr2 ?_ ?_ ?_ ?_))
      · intro j hj hj2
        have h1 : j < wr.heap.size := (hH.out.1.lt j hj).2
        have h2 : j = wr.heap.size := hj2
        omega
      · have := hlen.out; omega
      · have := hlen.out; omega
      intro v4 w4 hA
      have hs4 := hA.grown.size
      rw [World.size_alloc] at hs4
      have hn4 := hH.out.2.1.size
      have hO4 : OwnS (kInt .u8) 5 w4 (New w w4) v4 (bs' ++ [bits .or .u8 ((y : Int) % 128) 128]) := (hA.own.flat (flat_int _) fun j hj => by
        have hlt := (hA.own.lt j hj).2
        refine ⟨?_, hlt⟩
        rcases hA.lies j hj with h | h
        · exact (hH.out.1.lt j h).1.1
        · have := h.1; rw [World.size_alloc] at this; omega)
      have hb4 : Below w.heap.size w w4 := (hH.out.2.1.alloc (by omega) _).grown hA.grown (by rw [World.size_alloc]; omega) (fun j hj => (hH.out.1.lt j hj).1.1)
      obtain ⟨A7, n7, c7, rfl⟩ := hO4.shape
      have hn7 : n7 = m + 1 := by
        obtain ⟨A', c', e', _⟩ := hO4.slice
        injection e' with _ e' _
        rw [e', List.length_append, hlen.out]
        rfl
      subst hn7
      have HQ := Lib.hid (And.intro hO4 hb4)
      clear hA hO3 hO4 hb4 hr2
      go_wp2
      go_roundw
      case rel =>
        obtain ⟨f', rfl⟩ : ∃ f', f = f' + 1 := by
          cases f with
          | zero => omega
          | succ f' => exact ⟨f', rfl⟩
        have hpow : (128 : Nat) ^ (f' + 1 + 1) = 128 ^ (f' + 1) * 128 := Nat.pow_succ _ _
        refine ⟨f', y / 128, m + 1, A7, c7, bs' ++ [bits .or .u8 ((y : Int) % 128) 128], by simp only [Value.int.injEq, true_and]; omega, by rw [Nat.div_lt_iff_lt_mul (by omega)]; omega, by omega, rfl, HQ.out.1, HQ.out.2, ?_, by have := hH.out.2.2.2; omega⟩
        rw [← hH.out.2.2.1]
        conv => rhs; rw [vputF]
        rw [if_neg (by omega), or128b]
        simp
      case measure => simp [intOf]; omega
    · have hr2 : RS (kInt .u8) (wr.alloc (.cells #[.int .u8 y] 5)) (fun j => j = wr.heap.size) (some ⟨wr.heap.size, 0, none⟩) 1 [(y : Int)] := lit1 .u8 5 wr _
      have hO3 := hH.out.1.below ((Below.refl wr.heap.size wr).alloc (Nat.le_refl _) (.cells #[.int .u8 y] 5))
      clear hb
      go_wp2_with (first
        | (at_builtin
           refine wpList_append_S rfl tBytes (.tmp 18) (.tmp 21) rfl (K := kInt .u8) rfl rfl hO3 hr2 ?_ ?_ ?_ ?_))
      · intro j hj hj2
        have h1 : j < wr.heap.size := (hH.out.1.lt j hj).2
        have h2 : j = wr.heap.size := hj2
        omega
      · have := hlen.out; omega
      · have := hlen.out; omega
      intro v4 w4 hA
      have hs4 := hA.grown.size
      rw [World.size_alloc] at hs4
      have hn4 := hH.out.2.1.size
      have hO4 : OwnS (kInt .u8) 5 w4 (New w w4) v4 (bs' ++ [(y : Int)]) := (hA.own.flat (flat_int _) fun j hj => by
        have hlt := (hA.own.lt j hj).2
        refine ⟨?_, hlt⟩
        rcases hA.lies j hj with h | h
        · exact (hH.out.1.lt j h).1.1
        · have := h.1; rw [World.size_alloc] at this; omega)
      have hb4 : Below w.heap.size w w4 := (hH.out.2.1.alloc (by omega) _).grown hA.grown (by rw [World.size_alloc]; omega) (fun j hj => (hH.out.1.lt j hj).1.1)
      have HQ := Lib.hid (And.intro hO4 hb4)
      clear hA hO3 hO4 hb4 hr2
      go_wp2
      go_ret
      have hv : vputF f y = [(y : Int)] := by
        cases f with
        | zero => rfl
        | succ f' => rw [vputF, if_pos (by omega)]
      rw [← hH.out.2.2.1, hv]
      exact ⟨_, rfl, HQ.out.1, fun k hk => (HQ.out.1.lt k hk).1.1, HQ.out.2⟩
end Go.Proofs.YtfjndjbpgcggkaaDoor
