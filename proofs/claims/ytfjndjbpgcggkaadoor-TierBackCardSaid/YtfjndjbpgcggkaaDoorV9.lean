/- bytes.Equal; frame.Get: what is read. -/
import Derived.Test.YtfjndjbpgcggkaaDoorV3
import Derived.Test.YtfjndjbpgcggkaaDoorV7
import Derived.RegionTactic
set_option linter.unusedVariables false
set_option linter.unusedSimpArgs false
namespace Go.Proofs.YtfjndjbpgcggkaaDoor
open Go.RowKit
attribute [local go_sem] Same.cell Same.frozen

theorem cut_lh {P : Program} {t e size bytes : Nat} (E : ElemT P t e size bytes) (kl kh : IntKind) (A : Option Addr) (n c m h : Nat) (hm : m ≤ n) (hmh : m ≤ h) (hh : h ≤ n) (hc : n ≤ c) :
    ∃ A', (∀ W : World, (Instr.slice t (.slice A n c) (some (.int kl (m : Int))) (some (.int kh (h : Int))) none).run P W = .ok (.slice A' (h - m) (c - m)) W) ∧
      ∀ {α : Type} (K : Kind α) (W : World) (F : Foot) (xs : List α), K.size = size → RS K W F A n xs → RS K W F A' (h - m) ((xs.drop m).take (h - m)) := by
  obtain ⟨i, z, hi, hz, hs, hb, hzs⟩ := E.info
  refine ⟨if c = m then A else A.map (·.add (m * size)), fun W => ?_, fun K W F xs hK hr => by have := (hr.drop_ m hm c hc).take_ (h - m) (by omega); rwa [hK] at this⟩
  have hel : P.elem t = e := by simp [Program.elem, E.ht]
  have hu : P.underlying t = some (.slice (P.elem t)) := by rw [hel]; exact E.ht
  rw [run_slice_lh W t A n c hu kl kh (m : Int) (h : Int) (Int.natCast_nonneg _) (by omega) (by omega), hel]
  have e1 : ((h : Int) - (m : Int)).toNat = h - m := by omega
  simp [sizeOf, typeInfo, hi, hs, sliced, Result.andThen]
theorem strOfNums_inj {a b : List Int} (ha : Bytes a) (hb : Bytes b) (h : strOfNums a = strOfNums b) : a = b := by
  have h1 : a.map (fun n => UInt8.ofNat n.toNat) = b.map (fun n => UInt8.ofNat n.toNat) := by
    have := congrArg (fun s : ByteArray => s.data.toList) h
    simpa [strOfNums] using this
  have key : ∀ l : List Int, Bytes l → (l.map (fun n => UInt8.ofNat n.toNat)).map (fun b => (b.toNat : Int)) = l := by
    intro l hl
    rw [List.map_map]
    conv => rhs; rw [← List.map_id l]
    refine List.map_congr_left fun x hx => ?_
    have := hl x hx
    show ((UInt8.ofNat x.toNat).toNat : Int) = x
    rw [UInt8.toNat_ofNat']
    omega
  rw [← key a ha, ← key b hb, h1]

theorem bEqual_any (A B : Option Addr) (n m c d : Nat) (xs ys : List Int) (w : World) (F G : Foot) (hx : RS (kInt .u8) w F A n xs) (hy : RS (kInt .u8) w G B m ys) (hX : Bytes xs) (hY : Bytes ys) :
    Calls Tryd.prog 99 #[.slice A n c, .slice B m d] w fun e w' => e = .returned (.bool (decide (xs = ys))) ∧ w' = w := by
  have h1 := hx.str (P := Tryd.prog) 26 9 5 c Tryd.underlying26 Tryd.underlying5 Tryd.underlying9
  have h2 := hy.str (P := Tryd.prog) 26 9 5 d Tryd.underlying26 Tryd.underlying5 Tryd.underlying9
  have he : Hid (((strOfNums xs).toList == (strOfNums ys).toList) = decide (xs = ys)) := by
    show _ = _
    rw [Bool.eq_iff_iff, beq_iff_eq, decide_eq_true_eq]
    exact ⟨fun h => strOfNums_inj hX hY (Go.WideShapes.bytes_inj (by rwa [ByteArray.toList_eq, ByteArray.toList_eq] at h)), fun h => by rw [h]⟩
  clear hx hy
  go_enter Tryd.func99, Tryd.ntmps99
  go_wp2
  go_ret
  exact ⟨by rw [← he.out]; rfl, rfl⟩

/-- A frame out of bytes: the piece, how many bytes, the error. -/
def fget (bs : List Int) : List Int × Nat × Int :=
  if (vget bs).2.2 ≠ 0 then ([], 0, (vget bs).2.2) else if 16777216 < (vget bs).1 then ([], 0, 3) else if bs.length < (vget bs).2.1 + 4 + (vget bs).1 then ([], 0, 4) else
  if (bs.drop (vget bs).2.1).take 4 = sum4 (crcSum ((bs.drop ((vget bs).2.1 + 4)).take (vget bs).1)) then ((bs.drop ((vget bs).2.1 + 4)).take (vget bs).1, (vget bs).2.1 + 4 + (vget bs).1, 0) else ([], 0, 5)
theorem vgetGo_n : ∀ (bs : List Int) (i x : Nat), (vgetGo bs i x).2.1 ≤ bs.length + i
  | [], i, x => Nat.zero_le _
  | c :: r, i, x => by
    unfold vgetGo
    have := vgetGo_n r (i + 1) (x + (c - 128).toNat * 128 ^ i)
    rw [List.length_cons]
    split
    · exact Nat.zero_le _
    · split
      · omega
      · split
        · exact Nat.zero_le _
        · show i + 1 ≤ _; omega
end Go.Proofs.YtfjndjbpgcggkaaDoor
