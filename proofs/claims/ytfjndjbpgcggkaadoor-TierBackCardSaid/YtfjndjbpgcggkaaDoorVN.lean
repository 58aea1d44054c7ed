/- A segment's object's name: it tells base and gen, and is valid. Plain. -/
import Derived.Test.YtfjndjbpgcggkaaDoorDP1
import Derived.Test.YtfjndjbpgcggkaaDoorTI
import Derived.Laws.RangeString
set_option linter.unusedVariables false
set_option linter.unusedSimpArgs false
namespace Go.Proofs.YtfjndjbpgcggkaaDoor
open Go.RowKit

/-- A text of digits. -/
theorem dec_digit (u : Nat) : ∀ c ∈ Lib.decDigits u, 48 ≤ c.toNat ∧ c.toNat ≤ 57 := by
  induction u using Nat.strongRecOn with
  | _ u ih =>
    have one : ∀ d : Nat, d < 10 → 48 ≤ (UInt8.ofNat (48 + d)).toNat ∧ (UInt8.ofNat (48 + d)).toNat ≤ 57 := fun d hd => by
      rw [UInt8.toNat_ofNat']; omega
    intro c hc
    rw [Lib.decDigits] at hc
    split at hc
    · rename_i h
      rw [List.mem_singleton] at hc
      subst hc
      exact one u h
    · rcases List.mem_append.1 hc with hc | hc
      · exact ih (u / 10) (by omega) c hc
      · rw [List.mem_singleton] at hc
        subst hc
        exact one _ (by omega)
theorem dec_long : ∀ (k u : Nat), u < 10 ^ (k + 1) → 1 ≤ (Lib.decDigits u).length ∧ (Lib.decDigits u).length ≤ k + 1
  | 0, u, h => by
    rw [Lib.decDigits, dif_pos (by simpa using h)]
    simp
  | k + 1, u, h => by
    rw [Lib.decDigits]
    split
    · simp
    · have h2 : u / 10 < 10 ^ (k + 1) := by
        rw [Nat.div_lt_iff_lt_mul (by omega)]
        rw [Nat.pow_succ] at h
        exact h
      have := dec_long k (u / 10) h2
      rw [List.length_append, List.length_singleton]
      omega
theorem dec_inj : ∀ (a b : Nat), Lib.decDigits a = Lib.decDigits b → a = b := by
  intro a
  induction a using Nat.strongRecOn with
  | _ a ih =>
    intro b h
    have pos : ∀ u, 1 ≤ (Lib.decDigits u).length := fun u => by
      rw [Lib.decDigits]
      split
      · simp
      · rw [List.length_append, List.length_singleton]; omega
    have one : ∀ d e : Nat, d < 10 → e < 10 → UInt8.ofNat (48 + d) = UInt8.ofNat (48 + e) → d = e := fun d e hd he hde => by
      have := congrArg UInt8.toNat hde
      rw [UInt8.toNat_ofNat', UInt8.toNat_ofNat'] at this
      omega
    rw [Lib.decDigits, Lib.decDigits.eq_1 b] at h
    by_cases ha : a < 10
    · rw [dif_pos ha] at h
      by_cases hb : b < 10
      · rw [dif_pos hb] at h
        injection h with h _
        exact one a b ha hb h
      · rw [dif_neg hb] at h
        have := congrArg List.length h
        have := pos (b / 10)
        simp only [List.length_append, List.length_singleton] at *
        omega
    · rw [dif_neg ha] at h
      by_cases hb : b < 10
      · rw [dif_pos hb] at h
        have := congrArg List.length h
        have := pos (a / 10)
        simp only [List.length_append, List.length_singleton] at *
        omega
      · rw [dif_neg hb] at h
        obtain ⟨h1, h2⟩ := List.append_inj' h rfl
        injection h2 with h2 _
        have e1 := ih (a / 10) (by omega) (b / 10) h1
        have e2 := one _ _ (Nat.mod_lt _ (by omega)) (Nat.mod_lt _ (by omega)) h2
        omega
/-- The name of a segment's object. -/
def nameL (a b : Nat) : List UInt8 := 115 :: (Lib.decDigits a ++ 46 :: Lib.decDigits b)
def objName (a b : Nat) : ByteArray := ⟨#[115]⟩ ++ dec a ++ ⟨#[46]⟩ ++ dec b
theorem objName_list (a b : Nat) : (objName a b).data.toList = nameL a b := by
  unfold objName dec nameL
  simp
theorem split_at (x y : List UInt8) : ∀ (u v : List UInt8), (∀ c ∈ u, c ≠ 46) → (∀ c ∈ v, c ≠ 46) → u ++ 46 :: x = v ++ 46 :: y → u = v ∧ x = y
  | [], [], _, _, h => ⟨rfl, by simpa using h⟩
  | [], d :: v, _, hv, h => by
    injection h with h _
    exact absurd h.symm (hv d List.mem_cons_self)
  | c :: u, [], hu, _, h => by
    injection h with h _
    exact absurd h (hu c List.mem_cons_self)
  | c :: u, d :: v, hu, hv, h => by
    injection h with h1 h2
    obtain ⟨e1, e2⟩ := split_at x y u v (fun z hz => hu z (List.mem_cons_of_mem _ hz)) (fun z hz => hv z (List.mem_cons_of_mem _ hz)) h2
    exact ⟨by rw [h1, e1], e2⟩
theorem dec_no46 (u : Nat) : ∀ c ∈ Lib.decDigits u, c ≠ 46 := fun c hc h => by
  have := dec_digit u c hc
  rw [h] at this
  exact absurd this.1 (by decide)
theorem objName_inj {a b c d : Nat} (h : objName a b = objName c d) : a = c ∧ b = d := by
  have hl : nameL a b = nameL c d := by rw [← objName_list, ← objName_list, h]
  unfold nameL at hl
  injection hl with _ hl
  obtain ⟨h1, h2⟩ := split_at _ _ _ _ (dec_no46 a) (dec_no46 c) hl
  exact ⟨dec_inj _ _ h1, dec_inj _ _ h2⟩
theorem refCount_asc (s : ByteArray) (hs : ∀ (i : Nat) (h : i < s.size), (plainC (s[i]'h).toNat = true ∨ (markC (s[i]'h).toNat = true ∧ 0 < i)) ∧ (s[i]'h).toNat < 128) :
    ∀ (f i n : Nat), s.size ≤ i + f → i ≤ s.size → refCount s f i n = some (n + (s.size - i))
  | 0, i, n, h1, h2 => by
    unfold refCount
    rw [show s.size - i = 0 by omega]
    rfl
  | f + 1, i, n, h1, h2 => by
    unfold refCount
    by_cases hi : i < s.size
    · obtain ⟨hc, ha⟩ := hs i hi
      have hd := decode_ascii s i hi ha
      have hr : rr (Utf8.decode s i) = ((s[i]'hi).toNat, 1, true) := by
        unfold rr
        rw [hd, if_neg (by dsimp only; omega)]
      have hok : okAt (Utf8.decode s i) i = true := by
        unfold okAt
        rw [hr]
        dsimp only
        rcases hc with h | ⟨h, h0⟩
        · simp [h]
        · simp [h, h0]
      rw [if_pos hi, if_pos hok, hr]
      dsimp only
      rw [refCount_asc s hs f (i + 1) (n + 1) (by omega) (by omega)]
      congr 1
      omega
    · rw [if_neg hi, show s.size - i = 0 by omega]
      rfl
theorem objName_size (a b : Nat) : (objName a b).size = (Lib.decDigits a).length + (Lib.decDigits b).length + 2 := by
  have h : (objName a b).data.toList.length = (objName a b).size := by simp
  rw [← h, objName_list]
  unfold nameL
  simp only [List.length_cons, List.length_append]
  omega
theorem objName_valid (a b : Nat) (ha : a < 10 ^ 16) (hb : b < 10 ^ 16) : validName (objName a b) = true := by
  rw [← refValid_eq]
  have hsz := objName_size a b
  have l1 := dec_long 15 a ha
  have l2 := dec_long 15 b hb
  have hs : ∀ (i : Nat) (h : i < (objName a b).size), (plainC ((objName a b)[i]'h).toNat = true ∨ (markC ((objName a b)[i]'h).toNat = true ∧ 0 < i)) ∧ ((objName a b)[i]'h).toNat < 128 := by
    intro i hi
    have hL : (objName a b).data.toList[i]? = some ((objName a b)[i]'hi) := by
      rw [Array.getElem?_toList]
      exact Array.getElem?_eq_getElem hi
    rw [objName_list] at hL
    generalize (objName a b)[i]'hi = c at hL ⊢
    have dig : 48 ≤ c.toNat ∧ c.toNat ≤ 57 → (plainC c.toNat = true ∨ (markC c.toNat = true ∧ 0 < i)) ∧ c.toNat < 128 := fun h => ⟨.inl (by unfold plainC; simp [h.1, h.2]), by omega⟩
    unfold nameL at hL
    cases i with
    | zero =>
      simp only [List.getElem?_cons_zero, Option.some.injEq] at hL
      subst hL
      exact ⟨.inl (by decide), by decide⟩
    | succ i =>
      rw [List.getElem?_cons_succ] at hL
      rcases List.mem_append.1 (List.mem_of_getElem? hL) with h | h
      · exact dig (dec_digit a c h)
      · rcases List.mem_cons.1 h with h | h
        · subst h
          exact ⟨.inr ⟨by decide, by omega⟩, by decide⟩
        · exact dig (dec_digit b c h)
  unfold refValid
  rw [refCount_asc _ hs _ 0 0 (by omega) (by omega), Nat.zero_add, Nat.sub_zero]
  unfold refOf
  simp only [Bool.and_eq_true, decide_eq_true_eq]
  omega
end Go.Proofs.YtfjndjbpgcggkaaDoor
