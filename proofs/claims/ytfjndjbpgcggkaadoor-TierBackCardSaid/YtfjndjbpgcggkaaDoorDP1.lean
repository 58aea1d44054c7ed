/- The document's Valid is the program's: plain. -/
import Derived.Test.YtfjndjbpgcggkaaDoorDN3
import Derived.Lib.ValidLaws
import Derived.Lib.TrimUEq
set_option linter.unusedVariables false
set_option linter.unusedSimpArgs false
namespace Go.Proofs.YtfjndjbpgcggkaaDoor
open Go.RowKit Go.Lib

/-- The rune that begins a text, its width, and whether it is right. -/
def rr (d : Nat × Nat) : Nat × Nat × Bool := if d.1 = 65533 ∧ d.2 = 1 then (0, 1, false) else (d.1, d.2, true)
def plainC (c : Nat) : Bool := (decide (97 ≤ c) && decide (c ≤ 122)) || (decide (48 ≤ c) && decide (c ≤ 57))
def markC (c : Nat) : Bool := decide (c = 45) || decide (c = 95) || decide (c = 46)
def farC (c : Nat) : Bool := decide (161 ≤ c) && decide (c ≤ 65535) && !decide (c = 173) && !decide (c = 65279)
def okAt (d : Nat × Nat) (pos : Nat) : Bool := (rr d).2.2 && (plainC (rr d).1 || farC (rr d).1 || (markC (rr d).1 && decide (0 < pos)))
def refCount (s : ByteArray) : Nat → Nat → Nat → Option Nat
  | 0, _, n => some n
  | fuel + 1, pos, n => if pos < s.size then (if okAt (Utf8.decode s pos) pos = true then refCount s fuel (pos + (rr (Utf8.decode s pos)).2.1) (n + 1) else none) else some n
def refOf : Option Nat → Bool
  | none => false
  | some n => decide (0 < n) && decide (n ≤ 40)
def refValid (s : ByteArray) : Bool := refOf (refCount s s.size 0 0)

theorem among_signs (c : Nat) : among signs (c : Int) = markC c := by
  have h : among signs (c : Int) = (if (45 : Int) = c then true else if (95 : Int) = c then true else if (46 : Int) = c then true else false) := rfl
  rw [h]
  unfold markC
  by_cases h1 : c = 45
  · subst h1; rfl
  · by_cases h2 : c = 95
    · subst h2; rfl
    · by_cases h3 : c = 46
      · subst h3; rfl
      · rw [if_neg (by omega), if_neg (by omega), if_neg (by omega)]; simp [h1, h2, h3]
theorem foldr_false (c : Int) : ∀ l : List Int, (∀ x ∈ l, x ≠ c) → l.foldr (fun (x : Int) r => if x = c then true else r) false = false
  | [], _ => rfl
  | x :: l, h => by
    rw [List.foldr_cons, if_neg (h x List.mem_cons_self)]
    exact foldr_false c l fun y hy => h y (List.mem_cons_of_mem _ hy)
theorem letters_small : ∀ c : Nat, c < 130 → among letters (c : Int) = plainC c := by decide +kernel
theorem among_letters (c : Nat) : among letters (c : Int) = plainC c := by
  by_cases hc : c < 130
  · exact letters_small c hc
  · have h : among letters (c : Int) = ([97, 98, 99, 100, 101, 102, 103, 104, 105, 106, 107, 108, 109, 110, 111, 112, 113, 114, 115, 116, 117, 118, 119, 120, 121, 122, 48, 49, 50, 51, 52, 53, 54, 55, 56, 57].foldr (fun (x : Int) r => if x = c then true else r) false) := by kernel_rfl
    rw [h, foldr_false]
    · unfold plainC
      symm
      simp
      omega
    · intro x hx
      simp at hx
      omega

theorem may_is (c : Nat) : may (c : Int) = (plainC c || markC c || farC c) := by
  have e1 : decide ((161 : Int) ≤ c) = decide (161 ≤ c) := by rw [decide_eq_decide]; omega
  have e2 : decide ((c : Int) ≤ 65535) = decide (c ≤ 65535) := by rw [decide_eq_decide]; omega
  have e3 : decide ((c : Int) = 173) = decide (c = 173) := by rw [decide_eq_decide]; omega
  have e4 : decide ((c : Int) = 65279) = decide (c = 65279) := by rw [decide_eq_decide]; omega
  unfold may farC
  rw [among_letters, among_signs, e1, e2, e3, e4]

theorem mark_not (c : Nat) (h : markC c = true) : plainC c = false ∧ farC c = false := by
  unfold markC at h
  simp only [Bool.or_eq_true, decide_eq_true_eq] at h
  rcases h with (h | h) | h <;> subst h <;> exact ⟨rfl, rfl⟩

/-- What is valid from a place on. -/
theorem ref_step (s : ByteArray) : ∀ (fuel pos n : Nat), s.size ≤ pos + fuel → (n = 0 ↔ pos = 0) →
    refCount s fuel pos n = match countFrom s fuel pos n with | none => none | some k => if validD (s.data.toList.drop pos) = true then some k else none
  | 0, pos, n, hs, _ => by
    have : s.data.toList.drop pos = [] := List.drop_eq_nil_of_le (by rw [← size_eq]; omega)
    simp [refCount, countFrom, this, validD_nil]
  | fuel + 1, pos, n, hs, hn => by
    by_cases hp : pos < s.size
    · have hne : s.data.toList.drop pos ≠ [] := by
        rw [Ne, List.drop_eq_nil_iff, ← size_eq]; omega
      have hv := validD_step _ hne
      rw [decodeL_drop, List.drop_drop] at hv
      unfold refCount countFrom
      rw [if_pos hp, if_pos hp]
      generalize hd : Utf8.decode s pos = d at hv
      have hw : 1 ≤ d.2 := by rw [← hd]; exact width_pos s pos hp
      by_cases hbad : d.1 = 65533 ∧ d.2 = 1
      · have h1 : okAt d pos = false := by unfold okAt rr; rw [if_pos hbad]; rfl
        rw [if_pos hbad] at hv
        rw [h1, if_neg (by decide), hv]
        split
        · rfl
        · rfl
      · have hr : rr d = (d.1, d.2, true) := by unfold rr; rw [if_neg hbad]
        rw [if_neg hbad] at hv
        have hok : (okAt d pos = true) ↔ ¬ (may d.1 = false ∨ (n = 0 ∧ among signs d.1 = true)) := by
          unfold okAt
          rw [hr, may_is, among_signs]
          cases hm : markC d.1 with
          | true =>
            obtain ⟨m1, m2⟩ := mark_not d.1 hm
            rw [m1, m2]
            simp
            omega
          | false =>
            cases plainC d.1 <;> cases farC d.1 <;> simp
        by_cases ho : okAt d pos = true
        · rw [if_pos ho, if_neg (hok.1 ho), hr]
          have := ref_step s fuel (pos + d.2) (n + 1) (by omega) (by omega)
          rw [show pos + ((d.1, d.2, true) : Nat × Nat × Bool).2.1 = pos + d.2 from rfl, this, hv]
        · have : may d.1 = false ∨ (n = 0 ∧ among signs d.1 = true) := by
            by_cases h : may d.1 = false ∨ (n = 0 ∧ among signs d.1 = true)
            · exact h
            · exact absurd (hok.2 h) ho
          rw [if_neg ho, if_pos this]
    · have : s.data.toList.drop pos = [] := List.drop_eq_nil_of_le (by rw [← size_eq]; omega)
      simp [refCount, countFrom, this, validD_nil, hp]
theorem refValid_eq (s : ByteArray) : refValid s = validName s := by
  unfold refValid validName
  rw [ref_step s s.size 0 0 (by omega) (by omega), List.drop_zero]
  cases countFrom s s.size 0 0 with
  | none => rfl
  | some k =>
    show refOf (if validD s.data.toList = true then some k else none) = _
    unfold validOf
    cases validD s.data.toList
    · simp [refOf]
    · simp [refOf]
end Go.Proofs.YtfjndjbpgcggkaaDoor
