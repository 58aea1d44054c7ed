/- The document's own disk: Used, get. -/
import Derived.Test.YtfjndjbpgcggkaaDoorDR1
set_option linter.unusedVariables false
set_option linter.unusedSimpArgs false
namespace Go.Proofs.YtfjndjbpgcggkaaDoor
open Go.RowKit

def rsum (l : List RFile) : Nat := (l.map (fun x => x.b.length)).sum
theorem rsum_take (l : List RFile) (k : Nat) (x : RFile) (h : l[k]? = some x) : rsum (l.take (k + 1)) = rsum (l.take k) + x.b.length := by
  have e : l.take (k + 1) = l.take k ++ [x] := by rw [List.take_add_one, h]; rfl
  rw [e]
  simp [rsum]
theorem rsum_le (l : List RFile) (k : Nat) : rsum (l.take k) ≤ rsum l := by
  have : rsum l = rsum (l.take k) + rsum (l.drop k) := by
    unfold rsum
    rw [← List.sum_append_nat, ← List.map_append, List.take_append_drop]
  omega

set_option maxHeartbeats 2000000 in
set_option maxRecDepth 100000 in
theorem rused_any (rb : Nat) (w : World) (F : Foot) (room : Int) (l : List RFile) (A : Option Addr) (c : Nat) (h : RefAt w F rb room l A c) (hn : l.length ≤ 1000000000) (ht : rsum l ≤ 1000000000000) :
    Calls Tryd.prog 93 #[.pointer (some ⟨rb, 0, none⟩)] w fun e w' => e = .returned (.int .i64 (rsum l : Nat)) ∧ w' = w := by
  have c1 : w.cell? ⟨rb, 1, none⟩ = some (.slice A l.length c) := cell_of_row w rb 1 _ _ _ h.cells
  obtain ⟨A', c', hv, hc, hm, hr⟩ := h.own.reads
  obtain ⟨rfl, rfl⟩ : A = A' ∧ c = c' := by injection hv with h1 _ h2; exact ⟨h1, h2⟩
  clear hv h
  have HA := Lib.hid (rsum_le l)
  go_enter Tryd.func93, Tryd.ntmps93
  go_wp2
  go_loop [3, 4] (fun z i => ∃ k : Nat, k ≤ l.length ∧ i = .int .i64 k ∧ z = .int .i64 (rsum (l.take k) : Nat)) (fun _ i => l.length - (intOf i).toNat)
  case atStart => exact ⟨0, by omega, rfl, by simp [rsum]⟩
  case round =>
    obtain ⟨k, hk, rfl, rfl⟩ := hrel
    by_cases hlt : k < l.length
    · obtain ⟨x, hx⟩ : ∃ x, l[k]? = some x := ⟨_, List.getElem?_eq_getElem hlt⟩
      obtain ⟨ad, A1, cp1, hA0, hFa, k0, k1, k2, l1, m1, r1⟩ := at_RFile hr hx
      subst hA0
      have s1 := rsum_take l k x hx
      have s2 := HA.out (k + 1)
      rw [s1] at s2
      have S1 := Lib.hid s1
      clear s1 hx r1
      generalize hs0 : rsum (l.take k) = s0 at s2 S1 ⊢
      have Hs0 := Lib.hid hs0
      clear hs0
      go_wp2
      go_round
      case rel => exact ⟨k + 1, by omega, by go_num, by rw [S1.out]; go_num⟩
      case measure => simp [intOf]; omega
    · obtain rfl : k = l.length := by omega
      have hl : l.take l.length = l := List.take_length
      rw [hl]
      go_wp2
      go_ret
      exact ⟨rfl, rfl⟩

/-- What get tells. -/
def rgot (s : ByteArray) (l : List RFile) : RFile × Int := if validName s = false then (⟨⟨#[]⟩, [], 0⟩, 6) else if isAt s l = true then (l[kp s l]?.getD ⟨⟨#[]⟩, [], 0⟩, 0) else (⟨⟨#[]⟩, [], 0⟩, 8)
def RGetPost (w : World) (F : Foot) (rb : Nat) (f : RFile) (e : Int) (en : Ending) (w' : World) : Prop :=
  ∃ (A : Option Addr) (cp : Nat), en = .returned (.tuple #[.agg #[.string f.name, .slice A f.b.length cp, .int .i64 f.loose], .int .i64 e]) ∧ f.b.length ≤ cp ∧ cp ≤ 9223372036854775807 ∧ RS (kInt .u8) w' (fun k => F k ∧ k ≠ rb ∧ k < w.heap.size) A f.b.length f.b ∧ Below w.heap.size w w'
theorem isAt_get (s : ByteArray) (l : List RFile) (h : isAt s l = true) : ∃ x, l[kp s l]? = some x ∧ x.name.toList = s.toList := by
  unfold isAt at h
  cases hx : l[kp s l]? with
  | none => rw [hx] at h; cases h
  | some x => rw [hx] at h; exact ⟨x, rfl, by simpa using h⟩
end Go.Proofs.YtfjndjbpgcggkaaDoor
