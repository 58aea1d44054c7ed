/- What record.Put wrote, record.Get reads; a segment's bytes, cut at a record. Plain. -/
import Derived.Test.YtfjndjbpgcggkaaDoorVP1
import Derived.Test.YtfjndjbpgcggkaaDoorV14
set_option linter.unusedVariables false
set_option linter.unusedSimpArgs false
namespace Go.Proofs.YtfjndjbpgcggkaaDoor
open Go.RowKit

theorem str_nums (s : ByteArray) : strOfNums (numsOf s) = s := by
  unfold strOfNums numsOf
  rw [List.map_map]
  have : s.data.toList.map ((fun n : Int => UInt8.ofNat n.toNat) ∘ fun b : UInt8 => (b.toNat : Int)) = s.data.toList := by
    conv => rhs; rw [← List.map_id s.data.toList]
    refine List.map_congr_left fun x _ => ?_
    show UInt8.ofNat (x.toNat : Int).toNat = x
    rw [Int.toNat_natCast, UInt8.ofNat_toNat]
  rw [this, Array.toArray_toList]
theorem unfold_fold (n : Int) : vunfold (vfold n) = n := by
  unfold vfold
  split <;> unfold vunfold <;> split <;> omega
/-- A number is read back out of the middle of bytes. -/
theorem rdNum_at (p s : List Int) (x most i : Nat) (hi : i = p.length) (hx : x ≤ most) (hm : most < 18446744073709551616) : rdNum (p ++ (vput x ++ s)) i 0 most = (x, i + (vput x).length, 0) := by
  subst hi
  unfold rdNum
  rw [if_neg (by simp), List.drop_left, vget_vput x s (by omega)]
  dsimp only
  rw [if_neg (by omega)]
theorem rdText_at (p s : List Int) (t : ByteArray) (most i : Nat) (hi : i = p.length) (hx : t.size ≤ most) (hm : most < 18446744073709551616) : rdText (p ++ (vput t.size ++ (numsOf t ++ s))) i 0 most = (t, i + (vput t.size).length + t.size, 0) := by
  subst hi
  unfold rdText
  rw [rdNum_at p _ _ most _ rfl hx hm]
  dsimp only
  have hl : (numsOf t).length = t.size := numsOf_length t
  rw [if_neg (by simp), if_neg (by simp only [List.length_append]; omega), ← List.append_assoc, ← List.length_append, List.drop_left, ← hl, List.take_left, str_nums]
theorem recGet_put (r : Record) (h : r.Okay) : recGet (recPut r) = (r, (recPut r).length, 0) := by
  have hok := h
  obtain ⟨off0, tm, key, val, dead⟩ := r
  obtain ⟨h0, h1, h2, h3, h4, h5, h6, -⟩ := h
  dsimp only at *
  obtain ⟨off, rfl⟩ := Int.eq_ofNat_of_zero_le h0
  have hfm : vfold tm ≤ 2199023255552 := by unfold vfold; split <;> omega
  have e1 : recPut ⟨off, tm, key, val, dead⟩ = [] ++ (vput off ++ (vput (vfold tm) ++ ([if dead then 1 else 0] ++ (vput key.size ++ (numsOf key ++ (vput val.size ++ (numsOf val ++ []))))))) := by
    unfold recPut
    simp
  have e2 : recPut ⟨off, tm, key, val, dead⟩ = vput off ++ (vput (vfold tm) ++ ([if dead then 1 else 0] ++ (vput key.size ++ (numsOf key ++ (vput val.size ++ (numsOf val ++ [])))))) := by
    unfold recPut
    simp
  have e3 : recPut ⟨off, tm, key, val, dead⟩ = (vput off ++ vput (vfold tm)) ++ ([if dead then 1 else 0] ++ (vput key.size ++ (numsOf key ++ (vput val.size ++ (numsOf val ++ []))))) := by
    unfold recPut
    simp
  have e4 : recPut ⟨off, tm, key, val, dead⟩ = (vput off ++ vput (vfold tm) ++ [if dead then 1 else 0]) ++ (vput key.size ++ (numsOf key ++ (vput val.size ++ (numsOf val ++ [])))) := by
    unfold recPut
    simp
  have e5 : recPut ⟨off, tm, key, val, dead⟩ = (vput off ++ vput (vfold tm) ++ [if dead then 1 else 0] ++ vput key.size ++ numsOf key) ++ (vput val.size ++ (numsOf val ++ [])) := by
    unfold recPut
    simp
  have n1 : rdNum (recPut ⟨off, tm, key, val, dead⟩) 0 0 1125899906842624 = (off, (vput off).length, 0) := by
    rw [e1, rdNum_at [] _ _ _ 0 rfl (by omega) (by omega), Nat.zero_add]
  have n2 : rdNum (recPut ⟨off, tm, key, val, dead⟩) (vput off).length 0 2199023255552 = (vfold tm, (vput off ++ vput (vfold tm)).length, 0) := by
    rw [e2, rdNum_at _ _ _ _ _ rfl hfm (by omega), List.length_append]
  have n3 : rdSign (recPut ⟨off, tm, key, val, dead⟩) (vput off ++ vput (vfold tm)).length 0 = (dead, (vput off ++ vput (vfold tm) ++ [if dead then 1 else 0]).length, 0) := by
    unfold rdSign
    rw [if_neg (by simp), e3, List.getElem?_append_right (Nat.le_refl _), Nat.sub_self]
    rw [List.length_append (bs := [if dead = true then 1 else 0])]
    cases dead <;> rfl
  have n4 : rdText (recPut ⟨off, tm, key, val, dead⟩) (vput off ++ vput (vfold tm) ++ [if dead then 1 else 0]).length 0 200 = (key, (vput off ++ vput (vfold tm) ++ [if dead then 1 else 0] ++ vput key.size ++ numsOf key).length, 0) := by
    rw [e4, rdText_at _ _ _ _ _ rfl h5 (by omega)]
    simp only [List.length_append, numsOf_length]
  have n5 : rdText (recPut ⟨off, tm, key, val, dead⟩) (vput off ++ vput (vfold tm) ++ [if dead then 1 else 0] ++ vput key.size ++ numsOf key).length 0 2000 = (val, (recPut ⟨off, tm, key, val, dead⟩).length, 0) := by
    rw [e5, rdText_at _ _ _ _ _ rfl h6 (by omega)]
    simp only [List.length_append, numsOf_length, List.length_nil, Nat.add_zero, Nat.add_assoc]
  have hw : IntKind.i64.wrap (off : Int) = off := by rw [IntKind.wrap_i64]; omega
  unfold recGet
  simp only [n1, n2, n3, n4, n5, hw, unfold_fold]
  simp [hok]
theorem recGetP (r : Record) (h : r.Okay) : (recGet (recPut r)).2.2 = 0 := by rw [recGet_put r h]
/-- Offsets rise. -/
def Rising : Int → List Record → Prop
  | _, [] => True
  | a, r :: l => a < r.Offset ∧ Rising r.Offset l
theorem segBytes_okay (r : Record) (l : List Record) (h : r.Okay) : segBytes (r :: l) = fput (recPut r) ++ segBytes l := by
  rw [segBytes, if_pos h]
theorem segBytes_take_okay (l : List Record) (i : Nat) (r : Record) (h : l[i]? = some r) (hr : r.Okay) : segBytes l = segBytes (l.take i) ++ (fput (recPut r) ++ segBytes (l.drop (i + 1))) := by
  induction l generalizing i with
  | nil => cases h
  | cons x l ih =>
    cases i with
    | zero =>
      simp only [List.getElem?_cons_zero, Option.some.injEq] at h
      subst h
      rw [segBytes_okay _ _ hr]
      rfl
    | succ i =>
      rw [List.take_succ_cons, segBytes, segBytes, List.append_assoc, List.drop_succ_cons, ← ih i h]
theorem segBytes_pos (l : List Record) (hl : ∀ r ∈ l, r.Okay) (i : Nat) (h : i < l.length) : (segBytes (l.take i)).length < (segBytes l).length := by
  have hr := hl l[i] (List.getElem_mem h)
  rw [segBytes_take_okay l i l[i] (List.getElem?_eq_getElem h) hr]
  have : 1 ≤ (fput (recPut l[i])).length := by
    unfold fput
    simp only [List.length_append]
    show 1 ≤ _ + 4 + _
    omega
  simp only [List.length_append]
  omega
/-- The offset of the last record so far; below 0 if there is none. -/
def lastOff (l : List Record) (i : Nat) : Int := match i with | 0 => -1 | k + 1 => match l[k]? with | none => -1 | some r => r.Offset
theorem rising_lt : ∀ (l : List Record) (a : Int) (i : Nat) (r : Record), Rising a l → l[i]? = some r → (match i with | 0 => a | k + 1 => match l[k]? with | none => -1 | some r => r.Offset) < r.Offset
  | [], a, i, r, _, h => by cases h
  | x :: l, a, 0, r, hR, h => by
    simp only [List.getElem?_cons_zero, Option.some.injEq] at h
    subst h
    exact hR.1
  | x :: l, a, i + 1, r, hR, h => by
    have := rising_lt l x.Offset i r hR.2 (by simpa using h)
    cases i with
    | zero => simpa using this
    | succ k => simpa using this

def at2 (r : Record) (i : Nat) : Record := ⟨2 * (i : Int), r.Time, r.Key, r.Value, r.Dead⟩
/-- The law's records: each at twice its place, those that are right. -/
def goods (l : List Record) : Nat → List Record
  | 0 => []
  | i + 1 => match l[i]? with | none => goods l i | some r => goods l i ++ (if (at2 r i).Okay then [at2 r i] else [])
theorem goods_step (l : List Record) (i : Nat) (r : Record) (h : l[i]? = some r) : goods l (i + 1) = goods l i ++ (if (at2 r i).Okay then [at2 r i] else []) := by
  rw [goods, h]
theorem Rising.snoc {r : Record} : ∀ {l : List Record} {a : Int}, Rising a l → a < r.Offset → (∀ x ∈ l, x.Offset < r.Offset) → Rising a (l ++ [r])
  | [], a, _, h, _ => ⟨h, trivial⟩
  | x :: l, a, hR, h, hx => ⟨hR.1, Rising.snoc hR.2 (hx x List.mem_cons_self) fun y hy => hx y (List.mem_cons_of_mem _ hy)⟩
theorem goods_facts (l : List Record) : ∀ i : Nat, (∀ r ∈ goods l i, r.Okay ∧ r.Offset < 2 * (i : Int)) ∧ Rising (-1) (goods l i) ∧ (goods l i).length ≤ i
  | 0 => ⟨fun r h => by simp [goods] at h, trivial, Nat.le_refl _⟩
  | i + 1 => by
    obtain ⟨h1, h2, h3⟩ := goods_facts l i
    cases h : l[i]? with
    | none =>
      rw [goods, h]
      exact ⟨fun r hr => ⟨(h1 r hr).1, by have := (h1 r hr).2; omega⟩, h2, by dsimp only; omega⟩
    | some x =>
      rw [goods_step l i x h]
      split
      · rename_i hok
        refine ⟨fun r hr => ?_, h2.snoc (by show -1 < 2 * (i : Int); omega) fun y hy => (h1 y hy).2, by rw [List.length_append, List.length_singleton]; omega⟩
        rcases List.mem_append.1 hr with hr | hr
        · exact ⟨(h1 r hr).1, by have := (h1 r hr).2; omega⟩
        · rw [List.mem_singleton] at hr
          subst hr
          exact ⟨hok, by show 2 * (i : Int) < _; omega⟩
      · rw [List.append_nil]
        exact ⟨fun r hr => ⟨(h1 r hr).1, by have := (h1 r hr).2; omega⟩, h2, by omega⟩
end Go.Proofs.YtfjndjbpgcggkaaDoor
