/- Contracts of net.Net's methods: Len, at. -/
import Derived.Test.YtngmipppgnlkdaaP
set_option linter.unusedVariables false
set_option linter.unusedSimpArgs false
namespace Go.Proofs.Ytngmipppgnlkdaa
open Go.RowKit
attribute [local go_sem] Same.cell

/-- A Net at block g; all that it leads to lies in F. -/
def NetAt (W : World) (g : Nat) (F : Foot) (l : List Message) : Prop :=
  ∃ v, W.heap[g]? = some (.cells #[v] 50 (0, 0)) ∧ F g ∧ OwnS kMessage 54 W (fun k => F k ∧ k ≠ g) v l
structure NetOk (l : List Message) : Prop where
  len : l.length ≤ 10000
  fit : ∀ m ∈ l, m.Fits
section
variable {W W' : World} {g : Nat} {F G : Foot} {l : List Message}
theorem NetAt.lt (h : NetAt W g F l) : g < W.heap.size := by
  obtain ⟨v, h1, _⟩ := h
  exact (Array.getElem?_eq_some_iff.1 h1).1
theorem NetAt.foot (h : NetAt W g F l) : F g := h.choose_spec.2.1
theorem NetAt.mono (h : NetAt W g F l) (hG : ∀ k, F k → G k) : NetAt W g G l := by
  obtain ⟨v, h1, h2, h3⟩ := h
  exact ⟨v, h1, hG g h2, h3.mono fun k hk => ⟨hG k hk.1, hk.2⟩⟩
theorem NetAt.keep (h : NetAt W g F l) (hs : W.heap.size ≤ W'.heap.size) (hk : ∀ k, F k → k < W.heap.size → W'.heap[k]? = W.heap[k]?) : NetAt W' g F l := by
  have hlt := h.lt
  obtain ⟨v, h1, h2, h3⟩ := h
  exact ⟨v, (hk g h2 hlt).trans h1, h2, h3.keep hs fun k hf hl => hk k hf.1 hl⟩
theorem NetAt.keeps {S : Foot} (h : NetAt W g F l) (hk : Keeps S W W') (ha : Apart F S) : NetAt W' g F l := h.keep hk.size fun k hf hlt => hk.block k hlt (ha k hf)
theorem NetAt.below (h : NetAt W g F l) (hk : Below W.heap.size W W') : NetAt W' g F l := h.keep hk.size fun k _ hlt => hk.block k hlt
theorem NetAt.drewN (h : NetAt W g F l) (n : Nat) : NetAt (W.drewN n) g F l := h.keep (Nat.le_refl _) fun _ _ _ => rfl
theorem NetAt.drew (h : NetAt W g F l) : NetAt W.drew g F l := h.keep (Nat.le_refl _) fun _ _ _ => rfl
theorem NetAt.bound (h : NetAt W g F l) : NetAt W g (fun k => F k ∧ k < W.heap.size) l := by
  have hlt := h.lt
  obtain ⟨v, h1, h2, h3⟩ := h
  exact ⟨v, h1, ⟨h2, hlt⟩, h3.bound.mono fun k hk => ⟨⟨hk.1.1, hk.2⟩, hk.1.2⟩⟩
theorem NetAt.cells (h : NetAt W g F l) : ∃ A c, W.heap[g]? = some (.cells #[.slice A l.length c] 50 (0, 0)) ∧ W.cell? ⟨g, 0, none⟩ = some (.slice A l.length c) ∧ W.frozen? ⟨g, 0, none⟩ = false ∧ F g ∧ g < W.heap.size ∧
    OwnS kMessage 54 W (fun k => F k ∧ k ≠ g) (.slice A l.length c) l ∧ l.length ≤ c ∧ c ≤ 9223372036854775807 ∧ RS kMessage W (fun k => F k ∧ k ≠ g) A l.length l := by
  have hlt := h.lt
  obtain ⟨v, h1, h2, h3⟩ := h
  obtain ⟨A, c, rfl, hc, hm, hr⟩ := h3.reads
  exact ⟨A, c, h1, cell_of_row W g 0 _ _ _ h1, frozen_of_row W g 0 _ _ h1, h2, hlt, h3, hc, hm, hr⟩
theorem NetAt.store {v0 v : Value} {l : List Message} (hb : W.heap[g]? = some (.cells #[v0] 50 (0, 0))) (hF : F g) (ho : OwnS kMessage 54 W (fun k => F k ∧ k ≠ g) v l) : NetAt (W.setCell ⟨g, 0, none⟩ v) g F l :=
  ⟨v, (heap_setCell_same W g 0 _ _ v hb).trans rfl, hF, ho.keep (by simp) fun k hk hlt => Below.heap_setCell _ _ _ _ (by simpa using hk.2)⟩
theorem NetAt.new (w : World) : NetAt (w.alloc (.cells #[.slice none 0 0] 50)) w.heap.size (fun k => k = w.heap.size) [] :=
  ⟨.slice none 0 0, heap_alloc_new w _, rfl, OwnS.nil⟩
end

theorem Len_any (g : Nat) (F : Foot) (l : List Message) (w : World) (h : NetAt w g F l) (hn : l.length ≤ 1000000000) :
    Calls Try.prog 22 #[.pointer (some ⟨g, 0, none⟩)] w fun e w' => e = .returned (.int .i64 l.length) ∧ w' = w := by
  obtain ⟨A, c, h0, h1, hfz, hF, hlt, ho, hc1, hc2, hr⟩ := h.cells
  clear h0
  go_enter Try.func22, Try.ntmps22
  go_wp2
  go_ret
  exact ⟨rfl, rfl⟩

theorem i64_and62 (n : Int) : bits .and .i64 n 4611686018427387903 = n % 4611686018427387904 := by
  have h62 : (BitVec.ofInt 64 4611686018427387903).toNat = 2 ^ 62 - 1 := by decide
  have key : (BitVec.ofInt 64 n &&& BitVec.ofInt 64 4611686018427387903).toNat = (n % ((2 ^ 64 : Nat) : Int)).toNat % 2 ^ 62 := by
    rw [BitVec.toNat_and, BitVec.toNat_ofInt, h62, Nat.and_two_pow_sub_one_eq_mod]
  show IntKind.i64.wrap ((BitVec.ofInt 64 n &&& BitVec.ofInt 64 4611686018427387903).toNat : Nat) = n % 4611686018427387904
  rw [key, IntKind.wrap_i64]
  omega

/-- Which message a number names. -/
def netIx (i : Int) (n : Nat) : Nat := ((i % 4611686018427387904) % n).toNat
theorem netIx_eq (i : Int) (n : Nat) (h : 0 < n) : (bits .and .i64 i 4611686018427387903).tmod (n : Int) = (netIx i n : Int) := by
  have h1 := Int.emod_nonneg i (show (4611686018427387904 : Int) ≠ 0 by omega)
  have h2 := Int.emod_nonneg (i % 4611686018427387904) (show (n : Int) ≠ 0 by omega)
  rw [i64_and62, Int.tmod_eq_emod_of_nonneg h1, netIx]
  omega
theorem netIx_lt (i : Int) (n : Nat) (h : 0 < n) : netIx i n < n := by
  have h2 := Int.emod_nonneg (i % 4611686018427387904) (show (n : Int) ≠ 0 by omega)
  have h3 := Int.emod_lt_of_pos (i % 4611686018427387904) (show (0 : Int) < n by omega)
  unfold netIx
  omega

theorem at_none (g : Nat) (F : Foot) (w : World) (i : Int) (h : NetAt w g F []) :
    Calls Try.prog 41 #[.pointer (some ⟨g, 0, none⟩), .int .i64 i] w fun e w' => e = .returned (.tuple #[.int .i64 0, .bool false]) ∧ w' = w := by
  obtain ⟨A, c, hh0, h1, hfz, hF, hlt, ho, hc1, hc2, hr⟩ := h.cells
  clear hh0
  go_enter Try.func41, Try.ntmps41
  go_wp2
  go_ret2
  exact ⟨rfl, rfl⟩
theorem at_any (g : Nat) (F : Foot) (l : List Message) (w : World) (i : Int) (h : NetAt w g F l) (hn : l.length ≤ 1000000000) (h0 : 0 < l.length) :
    Calls Try.prog 41 #[.pointer (some ⟨g, 0, none⟩), .int .i64 i] w fun e w' => e = .returned (.tuple #[.int .i64 (netIx i l.length), .bool true]) ∧ w' = w := by
  obtain ⟨A, c, hh0, h1, hfz, hF, hlt, ho, hc1, hc2, hr⟩ := h.cells
  have hix := netIx_eq i l.length h0
  clear hh0
  go_enter Try.func41, Try.ntmps41
  go_wp2
  go_ret2
  exact ⟨rfl, rfl⟩

theorem zcell (i : TypeInfo) (z : Value) (hi : Try.prog.info? 54 = some i) (hz : i.zero = some z) : ∀ u ∈ z.cells, u.oneCell' = true := by
  have h : (Try.prog.info? 54).map (fun i => i.zero) = some (some (.agg #[.int .i64 0, .int .i64 0, .int .i64 0, .int .i64 0, .int .i64 0, .int .i64 0, .slice none 0 0, .int .i64 0, .bool false, .int .i64 0, .slice none 0 0])) := by kernel_rfl
  rw [hi] at h
  simp only [Option.map_some, hz, Option.some.injEq] at h
  subst h
  intro u hu
  simp only [Value.cells, List.mem_toArray, List.mem_cons, List.not_mem_nil, or_false] at hu
  rcases hu with rfl | rfl | rfl | rfl | rfl | rfl | rfl | rfl | rfl | rfl | rfl <;> rfl

set_option maxHeartbeats 1000000 in
theorem Delete_any (A : Option Addr) (c : Nat) (w : World) (F : Foot) (l : List Message) (i : Nat) (h : OwnS kMessage 54 w F (.slice A l.length c) l) (hi : i < l.length) (hn : l.length ≤ 1000000000) :
    Calls Try.prog 42 #[.slice A l.length c, .int .i64 i, .int .i64 ((i : Int) + 1)] w fun e w' => ∃ v, e = .returned v ∧ OwnS kMessage 54 w' F v (l.eraseIdx i) ∧ v.ownBlock = (Value.slice A l.length c).ownBlock ∧ Keeps (fun k => (Value.slice A l.length c).ownBlock = some k) w w' := by
  obtain ⟨_, c', hv, hc1, hc2⟩ := h.slice
  simp only [Value.slice.injEq, true_and] at hv
  obtain ⟨rfl, rfl⟩ := hv
  obtain ⟨g, rfl⟩ : ∃ g, A = some ⟨g, 0, none⟩ := by
    obtain ⟨cs, h1, _⟩ := h
    rcases h1.2 with ⟨_, h⟩ | ⟨g, cap, cur, hv, _⟩
    · omega
    · injection hv with hA _ _; exact ⟨g, hA⟩
  have hbl := h.lt g rfl
  obtain ⟨n, hnn⟩ : ∃ n, Hid (l.length = n) := ⟨_, rfl⟩
  rw [hnn.out] at h hi hn hc1 ⊢
  have hcur : ∃ cur : Array Value, w.drew.heap[g]? = some (.cells cur 54 (0, 0)) ∧ n * 11 ≤ cur.size := by
    obtain ⟨cs, ⟨h1, h2⟩, _⟩ := h
    rcases h2 with ⟨hbad, _⟩ | ⟨g', cap, cur, hv, _, hh, hn', hc, hcur, htk⟩
    · cases hbad
    · simp only [Value.slice.injEq, Option.some.injEq, Addr.mk.injEq, and_true] at hv
      obtain ⟨rfl, _, rfl⟩ := hv
      exact ⟨cur, hh, by rw [hcur]; show n * 11 ≤ c * 11; omega⟩
  have Hcur := Lib.hid hcur
  clear hcur
  have e1 : ((i : Int) == (i : Int) + 1) = false := by rw [beq_eq_false_iff_ne]; omega
  have hgw := hbl.2
  obtain ⟨B, HB⟩ : ∃ B : Foot, Hid (∀ k, B k ↔ k = g) := ⟨_, fun _ => Iff.rfl⟩
  by_cases hci : c = i + 1
  all_goals
    have Hci := Lib.hid hci
    first | subst hci | (have hci2 : i + 1 < c := by omega)
    go_enter Try.func42, Try.ntmps42
    go_wp2
    refine wp_region_plan [0, 0, 0, 0, 0, 0, 1, 1] (fun w' => ∃ D : Same B w, w' = D.world) (by kernel_rfl) (by kernel_rfl) InSame.start ?_
    simp only [sel, selE, Nat.reduceEqDiff, reduceIte]
    repeat (go_big_quiet_step (fail))
    refine wpQuiet_nil ?_
    refine wpE_cons (fun N hN => ?_)
    have hd : OwnS kMessage 54 w.drew F (.slice (some ⟨g, 0, none⟩) n _) l := h.keep (Nat.le_refl _) fun _ _ _ => rfl
    refine wpList_shift (K := kMessage) (i := i) rfl tMessage (.tmp 22) (.tmp 25) rfl rfl rfl hd (by omega) (by omega) (fun hm => by first | omega | (rw [Addr.add_lit, Nat.zero_add]; rfl)) ?_
    intro tail ht
    have hk1 : Keeps (fun k => k = g) w.drew (w.drew.setCells g (i * kMessage.size) tail) := keeps_setCells (S := fun k => k = g) g _ _ _ rfl
    refine hN _ _ ⟨⟨_, fun k hk hn => hk1.block k hk (fun e => hn ((HB.out k).2 e))⟩, rfl⟩ ?_
    clear hN N
    have hers := fun zs hz => OwnS.erased (K := kMessage) hd hi (tail := tail) ht (zs := zs) hz
    have Hers := Lib.hid hers
    have hcell1 : ∀ j, j < n * 11 → ((w.drew.setCells g (i * kMessage.size) tail).cell? ⟨g, j, none⟩).isSome = true ∧ (w.drew.setCells g (i * kMessage.size) tail).frozen? ⟨g, j, none⟩ = false := by
      obtain ⟨cur, hh, hcs⟩ := Hcur.out
      have htl : tail.length ≤ (n - i - 1) * 11 := by
        have := ht ((n - i - 1) * 11)
        rw [if_neg (by show ¬ (n - i - 1) * 11 < (n - i - 1) * 11; omega)] at this
        exact List.getElem?_eq_none_iff.1 this
      have hle : i * kMessage.size + tail.length ≤ cur.size := by show i * 11 + tail.length ≤ cur.size; omega
      obtain ⟨cur', h2, h3⟩ := heap_setCells_list tail (i * kMessage.size) w.drew cur hh hle
      have hsz : cur'.size = cur.size := by have := congrArg List.length h3; simp at this; omega
      intro j hj
      refine ⟨?_, frozen_of_row _ g _ _ _ h2⟩
      rw [cell_of_row _ g _ _ _ _ h2, Array.getElem?_eq_getElem (by omega)]
      rfl
    have Hcell := Lib.hid hcell1
    clear hers hcell1
    refine wpE_cons (fun N hN => ?_)
    go_wp2
    refine hN _ _ ⟨⟨_, fun k hk hn => hk1.block k hk (fun e => hn ((HB.out k).2 e))⟩, rfl⟩ ?_
    clear hN N
    refine wpE_nil ?_
    obtain ⟨p, hp⟩ : ∃ p : Nat, p + 1 = n := ⟨n - 1, by omega⟩
    have Hp := Lib.hid hp
    have hpn : p < n := by omega
    generalize hW : w.drew.setCells g (i * kMessage.size) tail = w1 at hk1 Hers Hcell ⊢
    have Hk1 := Lib.hid hk1
    clear hk1 hd ht hW
    first | (rw [show i + (n - (i + 1)) = p by omega]) | (have hip : i = p := (by omega); rw [hip])
    clear hp
    go_wp2_with fail
    have hp := Hp.out
    rw [show n - p = 1 by omega]
    obtain ⟨zs, hzl, hzr⟩ := run_clear_S tMessage 0 w1 g (p * 11) (fun i z hi hz => zcell i z hi hz) (fun j hj => (Hcell.out _ (by omega)).1) (fun j hj => (Hcell.out _ (by omega)).2)
    rw [hzr]
    clear hzr hp
    go_wp2_with fail
    go_ret
    have hp := Hp.out
    obtain ⟨r1, r2⟩ := Hers.out zs hzl
    rw [show n - 1 = p by omega] at r1 r2
    first | subst hip | skip
    have r3 : Keeps (fun k => k = g) w _ := ⟨r2.os, r2.tape, r2.output, r2.size, r2.block⟩
    exact ⟨_, rfl, r1, rfl, r3.mono fun k _ hk => by rw [hk]; rfl⟩
end Go.Proofs.Ytngmipppgnlkdaa
