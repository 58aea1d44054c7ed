/- varint.Unfold; what record.Get tells. -/
import Derived.Test.YtfjndjbpgcggkaaDoorV13
set_option linter.unusedVariables false
set_option linter.unusedSimpArgs false
namespace Go.Proofs.YtfjndjbpgcggkaaDoor
open Go.RowKit

def vunfold (x : Nat) : Int := if x % 2 = 1 then -((x / 2 : Nat) : Int) - 1 else ((x / 2 : Nat) : Int)
theorem u64_and1 (n : Int) : bits .and .u64 n 1 = n % 2 := by
  have h3 : (BitVec.ofInt 64 1).toNat = 2 ^ 1 - 1 := by decide
  have key : (BitVec.ofInt 64 n &&& BitVec.ofInt 64 1).toNat = (n % ((2 ^ 64 : Nat) : Int)).toNat % 2 ^ 1 := by
    rw [BitVec.toNat_and, BitVec.toNat_ofInt, h3, Nat.and_two_pow_sub_one_eq_mod]
  show IntKind.u64.wrap ((BitVec.ofInt 64 n &&& BitVec.ofInt 64 1).toNat : Nat) = n % 2
  rw [key]
  show (((n % ((2 ^ 64 : Nat) : Int)).toNat % 2 ^ 1 : Nat) : Int) % 18446744073709551616 = _
  omega
theorem i64_not (z : Int) (h : 0 ≤ z ∧ z < 9223372036854775808) : bits .xor .i64 (-1) z = -z - 1 := by
  have e1 : BitVec.ofInt 64 (-1) = BitVec.allOnes 64 := by decide +kernel
  have key : (BitVec.ofInt 64 (-1) ^^^ BitVec.ofInt 64 z).toNat = 2 ^ 64 - 1 - (z % ((2 ^ 64 : Nat) : Int)).toNat := by
    rw [e1, BitVec.allOnes_xor, BitVec.toNat_not, BitVec.toNat_ofInt]
  show IntKind.i64.wrap ((BitVec.ofInt 64 (-1) ^^^ BitVec.ofInt 64 z).toNat : Nat) = _
  rw [key, IntKind.wrap_i64]
  omega
set_option maxHeartbeats 2000000 in
theorem vUnfold_any (x : Nat) (w : World) (hx : x < 18446744073709551616) :
    Calls Tryd.prog 179 #[.int .u64 x] w fun e w' => e = .returned (.int .i64 (vunfold x)) ∧ w' = w := by
  by_cases ho : x % 2 = 1
  · have hand : bits .and .u64 (x : Int) 1 = 1 := (u64_and1 x).trans (by omega)
    have hv : Hid (vunfold x = -((x / 2 : Nat) : Int) - 1) := by show _ = _; unfold vunfold; rw [if_pos ho]
    go_enter Tryd.func179, Tryd.ntmps179
    go_wp2
    go_ret
    have hx2 := i64_not ((x : Int) / 2) (by omega)
    exact ⟨by rw [hv.out, show -((x / 2 : Nat) : Int) - 1 = -((x : Int) / 2) - 1 by omega, ← hx2]; rfl, rfl⟩
  · have hand : bits .and .u64 (x : Int) 1 = 0 := (u64_and1 x).trans (by omega)
    have hv : Hid (vunfold x = ((x / 2 : Nat) : Int)) := by show _ = _; unfold vunfold; rw [if_neg ho]
    go_enter Tryd.func179, Tryd.ntmps179
    go_wp2
    go_ret
    exact ⟨by rw [hv.out]; rfl, rfl⟩
/-- What record.Get tells. -/
def recGet (bs : List Int) : Record × Nat × Int :=
  let a := rdNum bs 0 0 1125899906842624
  let b := rdNum bs a.2.1 a.2.2 2199023255552
  let s := rdSign bs b.2.1 b.2.2
  let k := rdText bs s.2.1 s.2.2 200
  let v := rdText bs k.2.1 k.2.2 2000
  let r : Record := ⟨IntKind.i64.wrap a.1, vunfold b.1, k.1, v.1, s.1⟩
  let e := if v.2.2 = 0 ∧ ¬ r.Okay then 2 else v.2.2
  if e ≠ 0 then (⟨0, 0, ⟨#[]⟩, ⟨#[]⟩, false⟩, 0, e) else (r, v.2.1, 0)
end Go.Proofs.YtfjndjbpgcggkaaDoor
