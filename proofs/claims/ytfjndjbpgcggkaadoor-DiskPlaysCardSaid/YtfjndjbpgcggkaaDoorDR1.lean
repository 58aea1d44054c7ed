/- The document's own disk: in memory; find. -/
import Derived.Test.YtfjndjbpgcggkaaDoorDR0
import Derived.Test.YtfjndjbpgcggkaaDoorDP3
import Derived.Test.YtfjndjbpgcggkaaDoorDK10
import Derived.BigQuiet
set_option linter.unusedVariables false
set_option linter.unusedSimpArgs false
namespace Go.Proofs.YtfjndjbpgcggkaaDoor
open Go.RowKit

structure RefAt (W : World) (F : Foot) (rb : Nat) (room : Int) (l : List RFile) (A : Option Addr) (c : Nat) : Prop where
  cells : W.heap[rb]? = some (.cells #[.int .i64 room, .slice A l.length c] 146 (0, 0))
  fs : F rb
  own : OwnS kRFile 191 W (fun k => F k ∧ k ≠ rb) (.slice A l.length c) l

def below (s : ByteArray) (x : RFile) : Bool := Op.bytesLess x.name.toList s.toList
def kp (s : ByteArray) (l : List RFile) : Nat := (l.takeWhile (below s)).length

theorem kp_le (s : ByteArray) (l : List RFile) : kp s l ≤ l.length := by
  unfold kp
  have := (List.takeWhile_sublist (below s) (l := l)).length_le
  exact this
theorem kp_next (s : ByteArray) : ∀ (l : List RFile) (k : Nat) (x : RFile), l[k]? = some x → k ≤ kp s l → below s x = true → k + 1 ≤ kp s l
  | [], k, x, hx, _, _ => by simp at hx
  | y :: l, 0, x, hx, _, hb => by
    obtain rfl : y = x := by simpa using hx
    unfold kp
    rw [List.takeWhile_cons_of_pos hb]
    simp
  | y :: l, k + 1, x, hx, hk, hb => by
    unfold kp at hk ⊢
    by_cases h : below s y = true
    · rw [List.takeWhile_cons_of_pos h] at hk ⊢
      have := kp_next s l k x (by simpa using hx) (by unfold kp; simp at hk; omega) hb
      unfold kp at this
      simp
      omega
    · rw [List.takeWhile_cons_of_neg h] at hk
      simp at hk
theorem kp_end (s : ByteArray) : ∀ (l : List RFile) (k : Nat) (x : RFile), l[k]? = some x → k ≤ kp s l → below s x = false → k = kp s l
  | [], k, x, hx, _, _ => by simp at hx
  | y :: l, 0, x, hx, _, hb => by
    obtain rfl : y = x := by simpa using hx
    unfold kp
    rw [List.takeWhile_cons_of_neg (by rw [hb]; decide)]
    rfl
  | y :: l, k + 1, x, hx, hk, hb => by
    unfold kp at hk ⊢
    by_cases h : below s y = true
    · rw [List.takeWhile_cons_of_pos h] at hk ⊢
      have := kp_end s l k x (by simpa using hx) (by unfold kp; simp at hk; omega) hb
      unfold kp at this
      simp
      omega
    · rw [List.takeWhile_cons_of_neg h] at hk
      simp at hk
/-- Is it there? -/
def isAt (s : ByteArray) (l : List RFile) : Bool := match l[kp s l]? with | some x => x.name.toList == s.toList | none => false

set_option maxHeartbeats 2000000 in
set_option maxRecDepth 100000 in
theorem rfind_any (rb : Nat) (s : ByteArray) (w : World) (F : Foot) (room : Int) (l : List RFile) (A : Option Addr) (c : Nat) (h : RefAt w F rb room l A c) (hn : l.length ≤ 1000000000) :
    Calls Tryd.prog 132 #[.pointer (some ⟨rb, 0, none⟩), .string s] w fun e w' => e = .returned (.tuple #[.int .i64 (kp s l : Nat), .bool (isAt s l)]) ∧ ∃ n, w' = w.drewN n := by
  have c1 : w.cell? ⟨rb, 1, none⟩ = some (.slice A l.length c) := cell_of_row w rb 1 _ _ _ h.cells
  obtain ⟨A', c', hv, hc, hm, hr⟩ := h.own.reads
  obtain ⟨rfl, rfl⟩ : A = A' ∧ c = c' := by injection hv with h1 _ h2; exact ⟨h1, h2⟩
  clear hv h
  go_enter Tryd.func132, Tryd.ntmps132
  go_wp2
  go_loop [6] (fun i => ∃ k : Nat, k ≤ kp s l ∧ i = .int .i64 k) (fun i => l.length - (intOf i).toNat)
  case atStart => exact ⟨0, by omega, rfl⟩
  case round =>
    obtain ⟨k, hk, rfl⟩ := hrel
    by_cases hlt : k < l.length
    · obtain ⟨x, hx⟩ : ∃ x, l[k]? = some x := ⟨_, List.getElem?_eq_getElem hlt⟩
      obtain ⟨ad, A1, cp1, hA0, hFa, k0, k1, k2, l1, m1, r1⟩ := at_RFile hr hx
      subst hA0
      have Hx := Lib.hid (And.intro hx r1)
      clear r1 hx
      cases hb : Op.bytesLess x.name.toList s.toList with
      | true =>
        have hk1 := kp_next s l k x Hx.out.1 hk hb
        go_wp2
        go_round
        case rel => exact ⟨k + 1, hk1, by go_num⟩
        case measure => simp [intOf]; omega
      | false =>
        obtain rfl := kp_end s l k x Hx.out.1 hk hb
        have hat : isAt s l = (x.name.toList == s.toList) := by unfold isAt; rw [Hx.out.1]
        have HAT := Lib.hid hat
        clear hat
        go_wp2_with fail
        go_quiet (fail)
        go_wp2
        go_ret2
        exact ⟨by rw [HAT.out]; rfl, _, rfl⟩
    · have hkl := kp_le s l
      obtain rfl : k = kp s l := by omega
      have hat : isAt s l = false := by unfold isAt; rw [List.getElem?_eq_none (by omega)]
      have HAT := Lib.hid hat
      have hkq : kp s l = l.length := by omega
      clear hat
      go_wp2_with fail
      go_quiet (fail)
      go_wp2
      go_ret2
      exact ⟨by rw [HAT.out, hkq]; rfl, _, rfl⟩
end Go.Proofs.YtfjndjbpgcggkaaDoor
