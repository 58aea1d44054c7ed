/- A map keyed by texts, in the model's own words: look-up, store, delete, range as run equations. Over any program, whatever the elements. -/
import Derived.Test.YtfjndjbpgcggkaaDoorL
import Derived.MapKept
import Derived.Maps.RangeRun
set_option linter.unusedVariables false
set_option linter.unusedSimpArgs false
namespace Go.Proofs.YtfjndjbpgcggkaaDoor
open Go.RowKit
open Go.ChangeMaps (setBlock)

/-- A map's entries: key, value, born. -/
abbrev Ents := List (ByteArray × Value × Nat)
def ents (m : Ents) : List MapEntry := m.map fun x => { key := .string x.1, val := x.2.1, born := x.2.2 }
def mfind (s : ByteArray) : Ents → Nat → Option (Nat × Value)
  | [], _ => none
  | x :: r, i => if s = x.1 then some (i, x.2.1) else mfind s r (i + 1)
theorem findNow_ents (s : ByteArray) : ∀ (m : Ents) (i : Nat), Instr.findNow .string (.string s) (ents m) i = some (mfind s m i)
  | [], _ => rfl
  | x :: r, i => by
    show (match Instr.sameNow .string (.string s) (.string x.1) with
      | some true => some (some (i, x.2.1))
      | some false => Instr.findNow .string (.string s) (ents r) (i + 1)
      | none => none) = _
    unfold mfind
    obtain ⟨r', hr, hiff⟩ := MapKept.sameNow_of_keys (d := .string) (a := .string s) (by simp [MapKept.IsKey]) (show MapKept.IsKey .string (.string x.1) by simp [MapKept.IsKey])
    rw [hr]
    by_cases h : s = x.1
    · rw [if_pos h]
      obtain rfl : r' = true := by rw [hiff, h]
      rfl
    · rw [if_neg h]
      have : r' = false := by
        cases r'
        · rfl
        · have := hiff.1 rfl
          injection this with this
          first | exact absurd this h | exact absurd this.symm h
      rw [this]
      exact findNow_ents s r (i + 1)

def mset (s : ByteArray) (v : Value) : Ents → Ents
  | [] => []
  | x :: r => if s = x.1 then (x.1, v, x.2.2) :: r else x :: mset s v r
theorem mfind_at (s : ByteArray) : ∀ (m : Ents) (i j : Nat) (u : Value), mfind s m i = some (j, u) → ∃ b, i ≤ j ∧ m[j - i]? = some (s, u, b)
  | [], _, _, _, h => by cases h
  | x :: r, i, j, u, h => by
    unfold mfind at h
    by_cases hs : s = x.1
    · rw [if_pos hs] at h
      injection h with h
      injection h with h1 h2
      subst h1 h2
      exact ⟨x.2.2, Nat.le_refl _, by simp [hs]⟩
    · rw [if_neg hs] at h
      obtain ⟨b, h1, h2⟩ := mfind_at s r (i + 1) j u h
      refine ⟨b, by omega, ?_⟩
      rw [show j - i = (j - (i + 1)) + 1 by omega]
      simpa using h2
theorem mset_modify (s : ByteArray) (v : Value) : ∀ (m : Ents) (i j : Nat) (u : Value), mfind s m i = some (j, u) → ents (mset s v m) = (ents m).modify (j - i) fun e => { e with key := .string s, val := v }
  | [], _, _, _, h => by cases h
  | x :: r, i, j, u, h => by
    unfold mfind at h
    by_cases hs : s = x.1
    · rw [if_pos hs] at h
      injection h with h
      injection h with h1 h2
      subst h1
      simp [mset, hs, ents]
    · rw [if_neg hs] at h
      obtain ⟨b, h1, h2⟩ := mfind_at s r (i + 1) j u h
      rw [show j - i = (j - (i + 1)) + 1 by omega]
      have := mset_modify s v r (i + 1) j u h
      simp only [mset, if_neg hs, ents, List.map_cons, List.modify_succ_cons]
      simpa [ents] using this
def mdel (s : ByteArray) : Ents → Ents
  | [] => []
  | x :: r => if s = x.1 then r else x :: mdel s r
theorem mdel_erase (s : ByteArray) : ∀ (m : Ents) (i j : Nat) (u : Value), mfind s m i = some (j, u) → ents (mdel s m) = (ents m).eraseIdx (j - i)
  | [], _, _, _, h => by cases h
  | x :: r, i, j, u, h => by
    unfold mfind at h
    by_cases hs : s = x.1
    · rw [if_pos hs] at h
      injection h with h
      injection h with h1 h2
      subst h1
      simp [mdel, hs, ents]
    · rw [if_neg hs] at h
      obtain ⟨b, h1, h2⟩ := mfind_at s r (i + 1) j u h
      rw [show j - i = (j - (i + 1)) + 1 by omega]
      have := mdel_erase s r (i + 1) j u h
      simp only [mdel, if_neg hs, ents, List.map_cons, List.eraseIdx_cons_succ]
      simpa [ents] using this

/-- Type T is a map from type K, texts, to type E, whose zero value is z. -/
structure MapT (P : Program) (T K E : TypeId) (z : Value) : Prop where
  t : P.underlying T = some (.map K E)
  k : P.underlying K = some .string
  z : ∀ w : World, (zeroValue E).run P w = .ok z w

section
variable {P : Program} {T K E : TypeId} {z : Value}
theorem run_look (M : MapT P T K E z) (w : World) (mb clock : Nat) (m : Ents) (s : ByteArray) (ok : Bool) (h : w.heap[mb]? = some (.map (ents m).toArray clock)) :
    (Instr.lookup T (.map (some mb)) (.string s) ok).run P w = .ok (match mfind s m 0 with
      | some x => if ok then .tuple #[x.2, .bool true] else x.2
      | none => if ok then .tuple #[z, .bool false] else z) w := by
  have hk := M.k
  have hc : ∀ e, (Instr.checkKey e 10000 K (.string s)).run P w = .ok () w := fun e => MapKept.run_checkKey (k := .string s) hk (by simp [MapKept.IsKey]) e 9999
  have hf := MapKept.run_findKey (w := w) hk (findNow_ents s m 0)
  have hz := M.z w
  cases hm : mfind s m 0 with
  | none =>
    rw [hm] at hf
    cases ok <;> simp [Instr.lookup, run_underlying M.t, MapKept.run_getObj_map h, hc, hf, hz, Result.andThen]
  | some x =>
    rw [hm] at hf
    cases ok <;> simp [Instr.lookup, run_underlying M.t, MapKept.run_getObj_map h, hc, hf, Result.andThen]

theorem run_put_new (M : MapT P T K E z) (w : World) (mb clock : Nat) (m : Ents) (s : ByteArray) (v : Value) (h : w.heap[mb]? = some (.map (ents m).toArray clock)) (hm : mfind s m 0 = none) :
    (Instr.mapUpdate T (.map (some mb)) (.string s) v).run P w = .ok () { w with heap := w.heap.setIfInBounds mb (.map (ents (m ++ [(s, v, clock)])).toArray (clock + 1)) } := by
  have hk := M.k
  have hc : (Instr.checkKey false 10000 K (.string s)).run P w = .ok () w := MapKept.run_checkKey (k := .string s) hk (by simp [MapKept.IsKey]) false 9999
  have hf := MapKept.run_findKey (w := w) hk (findNow_ents s m 0)
  rw [hm] at hf
  simp [Instr.mapUpdate, run_underlying M.t, MapKept.run_getObj_map h, hc, hf, MapKept.run_setObj_map _ h, Result.andThen]
  simp [ents]

theorem run_put_old (M : MapT P T K E z) (w : World) (mb clock : Nat) (m : Ents) (s : ByteArray) (v : Value) (x : Nat × Value) (h : w.heap[mb]? = some (.map (ents m).toArray clock)) (hm : mfind s m 0 = some x) :
    (Instr.mapUpdate T (.map (some mb)) (.string s) v).run P w = .ok () { w with heap := w.heap.setIfInBounds mb (.map (ents (mset s v m)).toArray clock) } := by
  have hk := M.k
  have hc : (Instr.checkKey false 10000 K (.string s)).run P w = .ok () w := MapKept.run_checkKey (k := .string s) hk (by simp [MapKept.IsKey]) false 9999
  have hf := MapKept.run_findKey (w := w) hk (findNow_ents s m 0)
  obtain ⟨j, u⟩ := x
  rw [hm] at hf
  obtain ⟨b, -, hj⟩ := mfind_at s m 0 j u hm
  have hmod := mset_modify s v m 0 j u hm
  simp only [Nat.sub_zero] at hj hmod
  have hold : ((((ents m)[j]?).map (·.key)).getD (.string s)) = .string s := by simp [ents, hj]
  have hst : (Instr.keyThatStays (.string s) (.string s)).run P w = .ok (.string s) w := by
    have : Instr.sameBits 10000 (.string s) (.string s) = true := by simp [Instr.sameBits, MapKept.bytes_beq]
    simp [Instr.keyThatStays, this]
  rw [hmod]
  simp [Instr.mapUpdate, run_underlying M.t, MapKept.run_getObj_map h, hc, hf, MapKept.run_setObj_map _ h, Result.andThen, hold, hst]

theorem run_del (M : MapT P T K E z) (w : World) (mb clock : Nat) (m : Ents) (s : ByteArray) (ty : TypeId) (x : Nat × Value) (h : w.heap[mb]? = some (.map (ents m).toArray clock)) (hm : mfind s m 0 = some x) :
    (Builtin.delete_ #[T, K] ty #[.map (some mb), .string s]).run P w = .ok (.tuple #[]) { w with heap := w.heap.setIfInBounds mb (.map (ents (mdel s m)).toArray clock) } := by
  have hk := M.k
  have hc : ∀ e, (Instr.checkKey e 10000 K (.string s)).run P w = .ok () w := fun e => MapKept.run_checkKey (k := .string s) hk (by simp [MapKept.IsKey]) e 9999
  have hf := MapKept.run_findKey (w := w) hk (findNow_ents s m 0)
  obtain ⟨j, u⟩ := x
  rw [hm] at hf
  obtain ⟨b, -, hj⟩ := mfind_at s m 0 j u hm
  have hmod := mdel_erase s m 0 j u hm
  simp only [Nat.sub_zero] at hj hmod
  have hjl : j < (ents m).length := by
    have := (List.getElem?_eq_some_iff.1 hj).1
    simpa [ents] using this
  rw [hmod]
  simp [Builtin.delete_, run_underlying M.t, MapKept.run_getObj_map h, hc, hf, MapKept.run_setObj_map _ h, Result.andThen, Array.eraseIdxIfInBounds, hjl]
end

/-! ### The stamps -/
/-- The entries' stamps are all different, and of the past. -/
def EWf (m : Ents) (clock : Nat) : Prop := (m.map (·.2.2)).Nodup ∧ ∀ x ∈ m, x.2.2 < clock
theorem born_mset (s : ByteArray) (v : Value) : ∀ m : Ents, (mset s v m).map (·.2.2) = m.map (·.2.2)
  | [] => rfl
  | x :: r => by
    unfold mset
    by_cases hs : s = x.1
    · rw [if_pos hs]; rfl
    · rw [if_neg hs, List.map_cons, List.map_cons, born_mset s v r]
theorem mdel_sub (s : ByteArray) : ∀ m : Ents, List.Sublist (mdel s m) m
  | [] => List.Sublist.refl _
  | x :: r => by
    unfold mdel
    by_cases hs : s = x.1
    · rw [if_pos hs]; exact List.sublist_cons_self x r
    · rw [if_neg hs]; exact (mdel_sub s r).cons_cons x
theorem EWf.mset {m : Ents} {clock : Nat} (h : EWf m clock) (s : ByteArray) (v : Value) : EWf (mset s v m) clock := by
  have hb := born_mset s v m
  refine ⟨by rw [hb]; exact h.1, fun x hx => ?_⟩
  have : x.2.2 ∈ (Go.Proofs.YtfjndjbpgcggkaaDoor.mset s v m).map (·.2.2) := List.mem_map.2 ⟨x, hx, rfl⟩
  rw [hb] at this
  obtain ⟨y, hy, e⟩ := List.mem_map.1 this
  rw [← e]
  exact h.2 y hy
theorem EWf.mdel {m : Ents} {clock : Nat} (h : EWf m clock) (s : ByteArray) : EWf (mdel s m) clock :=
  ⟨h.1.sublist ((mdel_sub s m).map _), fun x hx => h.2 x ((mdel_sub s m).subset hx)⟩
theorem EWf.app {m : Ents} {clock : Nat} (h : EWf m clock) (s : ByteArray) (v : Value) : EWf (m ++ [(s, v, clock)]) (clock + 1) := by
  refine ⟨?_, fun x hx => ?_⟩
  · rw [List.map_append, List.nodup_append]
    refine ⟨h.1, by simp, fun a ha e he hae => ?_⟩
    simp at he
    subst hae he
    obtain ⟨y, hy, e⟩ := List.mem_map.1 ha
    have := h.2 y hy
    omega
  · rcases List.mem_append.1 hx with h1 | h1
    · have := h.2 x h1; omega
    · simp at h1; subst h1; exact Nat.lt_succ_self _

/-! ### What a map says, whatever its elements -/
/-- Names and what they lead to, in the order in which they came. -/
abbrev Objs (α : Type) := List (ByteArray × α)
section
variable {α : Type}
def look (s : ByteArray) : Objs α → Option α
  | [] => none
  | x :: r => if s = x.1 then some x.2 else look s r
def oset (s : ByteArray) (b : α) : Objs α → Objs α
  | [] => []
  | x :: r => if s = x.1 then (x.1, b) :: r else x :: oset s b r
def odel (s : ByteArray) : Objs α → Objs α
  | [] => []
  | x :: r => if s = x.1 then r else x :: odel s r
def oput (s : ByteArray) (b : α) (c : Objs α) : Objs α := match look s c with | some _ => oset s b c | none => c ++ [(s, b)]
theorem look_mem (s : ByteArray) (o : α) : ∀ c : Objs α, look s c = some o → (s, o) ∈ c
  | [], h => by cases h
  | x :: r, h => by
    unfold look at h
    by_cases hs : s = x.1
    · rw [if_pos hs] at h
      injection h with h
      subst h hs
      exact List.mem_cons_self
    · rw [if_neg hs] at h
      exact List.mem_cons_of_mem _ (look_mem s o r h)
theorem mem_oset (s : ByteArray) (b : α) : ∀ (c : Objs α) (y : ByteArray × α), y ∈ oset s b c → y ∈ c ∨ y.2 = b
  | [], y, h => by cases h
  | x :: r, y, h => by
    unfold oset at h
    by_cases hs : s = x.1
    · rw [if_pos hs] at h
      rcases List.mem_cons.1 h with rfl | h
      · exact .inr rfl
      · exact .inl (List.mem_cons_of_mem _ h)
    · rw [if_neg hs] at h
      rcases List.mem_cons.1 h with rfl | h
      · exact .inl List.mem_cons_self
      · exact (mem_oset s b r y h).imp (List.mem_cons_of_mem _) id
theorem mem_odel (s : ByteArray) : ∀ (c : Objs α) (y : ByteArray × α), y ∈ odel s c → y ∈ c
  | [], y, h => by cases h
  | x :: r, y, h => by
    unfold odel at h
    by_cases hs : s = x.1
    · rw [if_pos hs] at h; exact List.mem_cons_of_mem _ h
    · rw [if_neg hs] at h
      rcases List.mem_cons.1 h with rfl | h
      · exact List.mem_cons_self
      · exact List.mem_cons_of_mem _ (mem_odel s r y h)
theorem mem_oput (s : ByteArray) (b : α) (c : Objs α) (y : ByteArray × α) (h : y ∈ oput s b c) : y ∈ c ∨ y.2 = b := by
  unfold oput at h
  cases hl : look s c with
  | none =>
    rw [hl] at h
    rcases List.mem_append.1 h with h | h
    · exact .inl h
    · simp at h; subst h; exact .inr rfl
  | some o => rw [hl] at h; exact mem_oset s b c y h
theorem keys_oset (s : ByteArray) (b : α) : ∀ c : Objs α, (oset s b c).map (·.1) = c.map (·.1)
  | [] => rfl
  | x :: r => by
    unfold oset
    by_cases hs : s = x.1
    · rw [if_pos hs]; rfl
    · rw [if_neg hs, List.map_cons, List.map_cons, keys_oset s b r]
theorem odel_sub (s : ByteArray) : ∀ c : Objs α, List.Sublist (odel s c) c
  | [] => List.Sublist.refl _
  | x :: r => by
    unfold odel
    by_cases hs : s = x.1
    · rw [if_pos hs]; exact List.sublist_cons_self x r
    · rw [if_neg hs]; exact (odel_sub s r).cons_cons x
theorem look_none (s : ByteArray) : ∀ c : Objs α, look s c = none ↔ s ∉ c.map (·.1)
  | [] => by simp [look]
  | x :: r => by
    unfold look
    by_cases hs : s = x.1
    · simp [hs]
    · rw [if_neg hs, look_none s r]
      simp [hs]
theorem nodup_oput (s : ByteArray) (b : α) (c : Objs α) (h : (c.map (·.1)).Nodup) : ((oput s b c).map (·.1)).Nodup := by
  unfold oput
  cases hl : look s c with
  | some o => show ((oset s b c).map (·.1)).Nodup; rw [keys_oset]; exact h
  | none =>
    show ((c ++ [(s, b)]).map (·.1)).Nodup
    rw [List.map_append, List.nodup_append]
    refine ⟨h, by simp, fun a ha e he hae => ?_⟩
    simp at he
    subst hae he
    exact (look_none a c).1 hl ha
theorem nodup_odel (s : ByteArray) (c : Objs α) (h : (c.map (·.1)).Nodup) : ((odel s c).map (·.1)).Nodup := h.sublist ((odel_sub s c).map _)
theorem look_oset_same (s : ByteArray) (b o : α) : ∀ c : Objs α, look s c = some o → look s (oset s b c) = some b
  | [], h => by cases h
  | x :: r, h => by
    unfold look at h
    by_cases hs : s = x.1
    · simp [oset, hs, look]
    · rw [if_neg hs] at h
      simp [oset, hs, look, look_oset_same s b o r h]
theorem look_oset_other (s t : ByteArray) (b : α) (h : t ≠ s) : ∀ c : Objs α, look t (oset s b c) = look t c
  | [] => rfl
  | x :: r => by
    unfold oset
    by_cases hs : s = x.1
    · rw [if_pos hs]
      have : t ≠ x.1 := fun e => h (e.trans hs.symm)
      simp [look, this]
    · rw [if_neg hs]
      simp [look, look_oset_other s t b h r]
theorem look_app (s t : ByteArray) (b : α) : ∀ c : Objs α, look t (c ++ [(s, b)]) = match look t c with | some o => some o | none => if t = s then some b else none
  | [] => by simp [look]
  | x :: r => by
    by_cases ht : t = x.1
    · simp [look, ht]
    · simp [look, ht, look_app s t b r]
theorem look_oput_same (s : ByteArray) (b : α) (c : Objs α) : look s (oput s b c) = some b := by
  unfold oput
  cases h : look s c with
  | none => show look s (c ++ [(s, b)]) = _; rw [look_app, h]; simp
  | some o => exact look_oset_same s b o c h
theorem look_oput_other (s t : ByteArray) (b : α) (c : Objs α) (h : t ≠ s) : look t (oput s b c) = look t c := by
  unfold oput
  cases hl : look s c with
  | none =>
    show look t (c ++ [(s, b)]) = _
    rw [look_app]
    cases look t c with
    | none => simp [h]
    | some o => rfl
  | some o => exact look_oset_other s t b h c
theorem look_odel_same (s : ByteArray) : ∀ c : Objs α, (c.map (·.1)).Nodup → look s (odel s c) = none
  | [], _ => rfl
  | x :: r, h => by
    rw [List.map_cons, List.nodup_cons] at h
    unfold odel
    by_cases hs : s = x.1
    · rw [if_pos hs]
      exact (look_none s r).2 (hs ▸ h.1)
    · rw [if_neg hs]
      simp [look, hs, look_odel_same s r h.2]
theorem look_odel_other (s t : ByteArray) (h : t ≠ s) : ∀ c : Objs α, look t (odel s c) = look t c
  | [] => rfl
  | x :: r => by
    unfold odel
    by_cases hs : s = x.1
    · rw [if_pos hs]
      have : t ≠ x.1 := fun e => h (e.trans hs.symm)
      simp [look, this]
    · rw [if_neg hs]
      simp [look, look_odel_other s t h r]

/-! ### The sum of some size over what is there -/
def osum (f : α → Nat) : Objs α → Nat
  | [] => 0
  | x :: r => f x.2 + osum f r
def szAt (f : α → Nat) (s : ByteArray) (c : Objs α) : Nat := match look s c with | some b => f b | none => 0
variable {f : α → Nat}
theorem osum_app (s : ByteArray) (b : α) : ∀ c : Objs α, osum f (c ++ [(s, b)]) = osum f c + f b
  | [] => by simp [osum]
  | x :: r => by simp [osum, osum_app s b r]; omega
theorem osum_set (s : ByteArray) (b o : α) : ∀ c : Objs α, look s c = some o → osum f (oset s b c) + f o = osum f c + f b
  | [], h => by cases h
  | x :: r, h => by
    unfold look at h
    by_cases hs : s = x.1
    · rw [if_pos hs] at h
      injection h with h
      subst h
      simp [oset, hs, osum]; omega
    · rw [if_neg hs] at h
      have := osum_set s b o r h
      simp [oset, hs, osum]; omega
theorem osum_del (s : ByteArray) (o : α) : ∀ c : Objs α, look s c = some o → osum f (odel s c) + f o = osum f c
  | [], h => by cases h
  | x :: r, h => by
    unfold look at h
    by_cases hs : s = x.1
    · rw [if_pos hs] at h
      injection h with h
      subst h
      simp [odel, hs, osum]; omega
    · rw [if_neg hs] at h
      have := osum_del s o r h
      simp [odel, hs, osum]; omega
theorem szAt_le (s : ByteArray) (c : Objs α) : szAt f s c ≤ osum f c := by
  unfold szAt
  cases h : look s c with
  | none => exact Nat.zero_le _
  | some o => have := osum_del (f := f) s o c h; show f o ≤ _; omega
theorem osum_put (s : ByteArray) (b : α) (c : Objs α) : osum f (oput s b c) + szAt f s c = osum f c + f b := by
  unfold oput szAt
  cases h : look s c with
  | none => show osum f (c ++ [(s, b)]) + 0 = _; rw [osum_app]; omega
  | some o => exact osum_set s b o c h
end

/-! ### The entries say it -/
/-- A map's element says x. -/
structure VKind (α : Type) where
  rep : World → Foot → α → Value → Prop
  mono : ∀ {W F G x v}, rep W F x v → (∀ k, F k → G k) → rep W G x v
  keep : ∀ {W W' F x v}, rep W F x v → (∀ k, F k → k < W.heap.size → W'.heap[k]? = W.heap[k]?) → rep W' F x v
  bound : ∀ {W F x v}, rep W F x v → rep W (fun k => F k ∧ k < W.heap.size) x v
def EntsR {α : Type} (V : VKind α) (W : World) (F : Foot) : Ents → Objs α → Prop
  | [], [] => True
  | x :: m, y :: c => x.1 = y.1 ∧ V.rep W F y.2 x.2.1 ∧ EntsR V W F m c
  | _, _ => False
section
variable {α : Type} {V : VKind α} {W W' : World} {F G : Foot}
theorem EntsR.keep (hk : ∀ k, F k → k < W.heap.size → W'.heap[k]? = W.heap[k]?) : ∀ {m : Ents} {c : Objs α}, EntsR V W F m c → EntsR V W' F m c
  | [], [], _ => trivial
  | _ :: _, _ :: _, h => ⟨h.1, V.keep h.2.1 hk, h.2.2.keep hk⟩
  | [], _ :: _, h => h.elim
  | _ :: _, [], h => h.elim
theorem EntsR.mono (hG : ∀ k, F k → G k) : ∀ {m : Ents} {c : Objs α}, EntsR V W F m c → EntsR V W G m c
  | [], [], _ => trivial
  | _ :: _, _ :: _, h => ⟨h.1, V.mono h.2.1 hG, h.2.2.mono hG⟩
  | [], _ :: _, h => h.elim
  | _ :: _, [], h => h.elim
theorem EntsR.bound : ∀ {m : Ents} {c : Objs α}, EntsR V W F m c → EntsR V W (fun k => F k ∧ k < W.heap.size) m c
  | [], [], _ => trivial
  | _ :: _, _ :: _, h => ⟨h.1, V.bound h.2.1, h.2.2.bound⟩
  | [], _ :: _, h => h.elim
  | _ :: _, [], h => h.elim
theorem EntsR.keys : ∀ {m : Ents} {c : Objs α}, EntsR V W F m c → m.map (·.1) = c.map (·.1)
  | [], [], _ => rfl
  | _ :: _, _ :: _, h => by rw [List.map_cons, List.map_cons, h.1, h.2.2.keys]
  | [], _ :: _, h => h.elim
  | _ :: _, [], h => h.elim
theorem EntsR.look (s : ByteArray) : ∀ {m : Ents} {c : Objs α} (i : Nat), EntsR V W F m c →
    (match mfind s m i, look s c with | some x, some b => V.rep W F b x.2 | none, none => True | _, _ => False)
  | [], [], _, _ => trivial
  | x :: m, y :: c, i, h => by
    unfold mfind Go.Proofs.YtfjndjbpgcggkaaDoor.look
    rw [h.1]
    by_cases hs : s = y.1
    · rw [if_pos hs, if_pos hs]; exact h.2.1
    · rw [if_neg hs, if_neg hs]; exact EntsR.look s (i + 1) h.2.2
  | [], _ :: _, _, h => h.elim
  | _ :: _, [], _, h => h.elim
theorem EntsR.set (s : ByteArray) (v : Value) (b : α) (hv : V.rep W F b v) : ∀ {m : Ents} {c : Objs α}, EntsR V W F m c → EntsR V W F (mset s v m) (oset s b c)
  | [], [], _ => trivial
  | x :: m, y :: c, h => by
    unfold mset oset
    rw [h.1]
    by_cases hs : s = y.1
    · rw [if_pos hs, if_pos hs]; exact ⟨rfl, hv, h.2.2⟩
    · rw [if_neg hs, if_neg hs]; exact ⟨h.1, h.2.1, EntsR.set s v b hv h.2.2⟩
  | [], _ :: _, h => h.elim
  | _ :: _, [], h => h.elim
theorem EntsR.del (s : ByteArray) : ∀ {m : Ents} {c : Objs α}, EntsR V W F m c → EntsR V W F (mdel s m) (odel s c)
  | [], [], _ => trivial
  | x :: m, y :: c, h => by
    unfold mdel odel
    rw [h.1]
    by_cases hs : s = y.1
    · rw [if_pos hs, if_pos hs]; exact h.2.2
    · rw [if_neg hs, if_neg hs]; exact ⟨h.1, h.2.1, EntsR.del s h.2.2⟩
  | [], _ :: _, h => h.elim
  | _ :: _, [], h => h.elim
theorem EntsR.app (s : ByteArray) (v : Value) (n : Nat) (b : α) (hv : V.rep W F b v) : ∀ {m : Ents} {c : Objs α}, EntsR V W F m c → EntsR V W F (m ++ [(s, v, n)]) (c ++ [(s, b)])
  | [], [], _ => ⟨rfl, hv, trivial⟩
  | _ :: _, _ :: _, h => ⟨h.1, h.2.1, EntsR.app s v n b hv h.2.2⟩
  | [], _ :: _, h => h.elim
  | _ :: _, [], h => h.elim

/-- The map's block is turned. -/
def World.setMap (w : World) (mb : Nat) (m : Ents) (clock : Nat) : World := { w with heap := w.heap.setIfInBounds mb (.map (ents m).toArray clock) }
theorem setMap_other (w : World) (mb : Nat) (m : Ents) (clock k : Nat) (h : k ≠ mb) : (World.setMap w mb m clock).heap[k]? = w.heap[k]? := by
  simp [World.setMap, Array.getElem?_setIfInBounds_ne (Ne.symm h)]
theorem setMap_same (w : World) (mb : Nat) (m : Ents) (clock : Nat) (h : mb < w.heap.size) : (World.setMap w mb m clock).heap[mb]? = some (.map (ents m).toArray clock) := by
  simp [World.setMap, h]
theorem setMap_size (w : World) (mb : Nat) (m : Ents) (clock : Nat) : (World.setMap w mb m clock).heap.size = w.heap.size := by simp [World.setMap]
theorem Keeps.setMap {S : Foot} {a w : World} (h : Keeps S a w) {mb : Nat} (hp : mb < a.heap.size → S mb) (m : Ents) (clock : Nat) : Keeps S a (World.setMap w mb m clock) :=
  ⟨h.os, h.tape, h.output, by rw [setMap_size]; exact h.size, fun k hk hs => (setMap_other _ _ _ _ _ (fun e => hs (by subst e; exact hp hk))).trans (h.block k hk hs)⟩

variable {P : Program} {T K E : TypeId} {z : Value} {mb clock : Nat} {m : Ents} {c : Objs α}
/-- A look-up: what is there, or the zero value. -/
theorem look_map (M : MapT P T K E z) (s : ByteArray) (he : EntsR V W F m c) :
    (∃ b v, look s c = some b ∧ V.rep W F b v ∧ ∀ w1 : World, w1.heap[mb]? = some (.map (ents m).toArray clock) → (Instr.lookup T (.map (some mb)) (.string s) false).run P w1 = .ok v w1 ∧ (Instr.lookup T (.map (some mb)) (.string s) true).run P w1 = .ok (.tuple #[v, .bool true]) w1) ∨
    (look s c = none ∧ ∀ w1 : World, w1.heap[mb]? = some (.map (ents m).toArray clock) → (Instr.lookup T (.map (some mb)) (.string s) false).run P w1 = .ok z w1 ∧ (Instr.lookup T (.map (some mb)) (.string s) true).run P w1 = .ok (.tuple #[z, .bool false]) w1) := by
  have hlk := EntsR.look s 0 he
  cases hm : mfind s m 0 with
  | none =>
    rw [hm] at hlk
    have hl : Go.Proofs.YtfjndjbpgcggkaaDoor.look s c = none := by
      cases h : Go.Proofs.YtfjndjbpgcggkaaDoor.look s c with
      | none => rfl
      | some b => rw [h] at hlk; exact hlk.elim
    refine .inr ⟨hl, fun w1 h1 => ⟨?_, ?_⟩⟩ <;> rw [run_look M w1 mb clock m s _ h1, hm] <;> rfl
  | some x =>
    rw [hm] at hlk
    obtain ⟨b, hl⟩ : ∃ b, Go.Proofs.YtfjndjbpgcggkaaDoor.look s c = some b := by
      cases h : Go.Proofs.YtfjndjbpgcggkaaDoor.look s c with
      | none => rw [h] at hlk; exact hlk.elim
      | some b => exact ⟨b, rfl⟩
    rw [hl] at hlk
    refine .inl ⟨b, x.2, hl, hlk, fun w1 h1 => ⟨?_, ?_⟩⟩ <;> rw [run_look M w1 mb clock m s _ h1, hm] <;> rfl
/-- A store. -/
theorem put_map (M : MapT P T K E z) (s : ByteArray) (v : Value) (he : EntsR V W F m c) (hw : EWf m clock) :
    ∃ (m' : Ents) (clock' : Nat), EWf m' clock' ∧ (∀ w1 : World, w1.heap[mb]? = some (.map (ents m).toArray clock) → (Instr.mapUpdate T (.map (some mb)) (.string s) v).run P w1 = .ok () (World.setMap w1 mb m' clock')) ∧
      ∀ (W' : World) (G : Foot) (b : α), EntsR V W' G m c → V.rep W' G b v → EntsR V W' G m' (oput s b c) := by
  have hlk := EntsR.look s 0 he
  cases hm : mfind s m 0 with
  | none =>
    rw [hm] at hlk
    have hl : Go.Proofs.YtfjndjbpgcggkaaDoor.look s c = none := by
      cases h : Go.Proofs.YtfjndjbpgcggkaaDoor.look s c with
      | none => rfl
      | some b => rw [h] at hlk; exact hlk.elim
    refine ⟨m ++ [(s, v, clock)], clock + 1, hw.app s v, fun w1 h1 => run_put_new M w1 mb clock m s v h1 hm, fun W' G b h hv => ?_⟩
    unfold oput
    rw [hl]
    exact EntsR.app s v clock b hv h
  | some x =>
    rw [hm] at hlk
    obtain ⟨b, hl⟩ : ∃ b, Go.Proofs.YtfjndjbpgcggkaaDoor.look s c = some b := by
      cases h : Go.Proofs.YtfjndjbpgcggkaaDoor.look s c with
      | none => rw [h] at hlk; exact hlk.elim
      | some b => exact ⟨b, rfl⟩
    refine ⟨mset s v m, clock, hw.mset s v, fun w1 h1 => run_put_old M w1 mb clock m s v x h1 hm, fun W' G b h hv => ?_⟩
    unfold oput
    rw [hl]
    exact EntsR.set s v b hv h
/-- A delete of a key that is there. -/
theorem del_map (M : MapT P T K E z) (s : ByteArray) (he : EntsR V W F m c) (hl : look s c ≠ none) :
    ∀ (w1 : World) (ty : TypeId), w1.heap[mb]? = some (.map (ents m).toArray clock) → (Builtin.delete_ #[T, K] ty #[.map (some mb), .string s]).run P w1 = .ok (.tuple #[]) (World.setMap w1 mb (mdel s m) clock) := by
  have hlk := EntsR.look s 0 he
  cases hm : mfind s m 0 with
  | none =>
    rw [hm] at hlk
    cases h : Go.Proofs.YtfjndjbpgcggkaaDoor.look s c with
    | none => exact absurd h hl
    | some b => rw [h] at hlk; exact hlk.elim
  | some x => exact fun w1 ty h1 => run_del M w1 mb clock m s ty x h1 hm
end

/-! ### Ranging over it -/
/-- What has been visited of m: entries of m, each once. -/
structure Visits (m vis : Ents) : Prop where
  sub : ∀ x ∈ vis, x ∈ m
  nd : (vis.map (·.2.2)).Nodup
theorem Visits.nil (m : Ents) : Visits m [] := ⟨by simp, by simp⟩
theorem inj_of_nodup {α β : Type} (f : α → β) : ∀ {m : List α}, (m.map f).Nodup → ∀ x ∈ m, ∀ y ∈ m, f x = f y → x = y
  | a :: m, h, x, hx, y, hy, e => by
    rw [List.map_cons, List.nodup_cons] at h
    rcases List.mem_cons.1 hx with rfl | hx1
    · rcases List.mem_cons.1 hy with rfl | hy1
      · rfl
      · exact absurd (List.mem_map.2 ⟨y, hy1, e.symm⟩) h.1
    · rcases List.mem_cons.1 hy with rfl | hy1
      · exact absurd (List.mem_map.2 ⟨x, hx1, e⟩) h.1
      · exact inj_of_nodup f h.2 x hx1 y hy1 e
theorem nodup_of_map {α β : Type} (f : α → β) : ∀ {m : List α}, (m.map f).Nodup → m.Nodup
  | [], _ => List.nodup_nil
  | a :: m, h => by
    rw [List.map_cons, List.nodup_cons] at h
    exact List.nodup_cons.2 ⟨fun ha => h.1 (List.mem_map.2 ⟨a, ha, rfl⟩), nodup_of_map f h.2⟩
theorem perm_of_mem {α : Type} : ∀ {l1 l2 : List α}, l1.Nodup → l2.Nodup → (∀ a, a ∈ l1 ↔ a ∈ l2) → l1.Perm l2
  | [], l2, _, _, h => by
    cases l2 with
    | nil => exact List.Perm.refl _
    | cons a l => exact absurd ((h a).2 List.mem_cons_self) (by simp)
  | a :: l1, l2, h1, h2, h => by
    obtain ⟨s, t, rfl⟩ := List.append_of_mem ((h a).1 List.mem_cons_self)
    rw [List.nodup_cons] at h1
    have h2' := (List.perm_middle (a := a) (l₁ := s) (l₂ := t)).nodup_iff.1 h2
    rw [List.nodup_cons] at h2'
    refine ((perm_of_mem h1.2 h2'.2 fun b => ⟨fun hb => ?_, fun hb => ?_⟩).cons a).trans List.perm_middle.symm
    · have := (h b).1 (List.mem_cons_of_mem _ hb)
      simp only [List.mem_append, List.mem_cons] at this ⊢
      rcases this with h | rfl | h
      · exact .inl h
      · exact absurd hb h1.1
      · exact .inr h
    · have : b ∈ a :: l1 := (h b).2 (by simp only [List.mem_append, List.mem_cons] at hb ⊢; rcases hb with h | h; exact .inl h; exact .inr (.inr h))
      rcases List.mem_cons.1 this with rfl | h
      · exact absurd hb h2'.1
      · exact h
theorem length_le_of_sub {α : Type} : ∀ {l1 l2 : List α}, l1.Nodup → (∀ a ∈ l1, a ∈ l2) → l1.length ≤ l2.length
  | [], _, _, _ => Nat.zero_le _
  | a :: l1, l2, h1, h => by
    obtain ⟨s, t, rfl⟩ := List.append_of_mem (h a List.mem_cons_self)
    rw [List.nodup_cons] at h1
    have := length_le_of_sub (l2 := s ++ t) h1.2 fun b hb => by
      have := h b (List.mem_cons_of_mem _ hb)
      simp only [List.mem_append, List.mem_cons] at this ⊢
      rcases this with h | rfl | h
      · exact .inl h
      · exact absurd hb h1.1
      · exact .inr h
    simp only [List.length_append, List.length_cons] at this ⊢
    omega
theorem visits_full {m vis : Ents} {clock : Nat} (hw : EWf m clock) (h : Visits m vis) (hf : ∀ x ∈ m, x.2.2 ∈ vis.map (·.2.2)) : vis.Perm m := by
  have inj : ∀ x ∈ m, ∀ y ∈ m, x.2.2 = y.2.2 → x = y := fun x hx y hy e => by
    exact inj_of_nodup _ hw.1 x hx y hy e
  refine perm_of_mem (nodup_of_map _ h.nd) (nodup_of_map _ hw.1) fun x => ⟨h.sub x, fun hx => ?_⟩
  obtain ⟨y, hy, e⟩ := List.mem_map.1 (hf x hx)
  rw [← inj y (h.sub y hy) x hx e]
  exact hy
/-- An iterator over the map in block mb, whose entries are m: vis have been visited. -/
def IterAt (W : World) (r mb clock : Nat) (vis : Ents) : Prop := W.heap[r]? = some (.mapIter (some mb) clock (vis.map (·.2.2)).toArray clock)
theorem range_start {P : Program} {T K E : TypeId} {z : Value} (M : MapT P T K E z) (w : World) (mb clock : Nat) (m : Ents) (h : w.heap[mb]? = some (.map (ents m).toArray clock)) :
    (Instr.range T (.map (some mb))).run P w = .ok (.pointer (some ⟨w.heap.size, 0, none⟩)) (w.alloc (.mapIter (some mb) clock #[] clock)) := run_range_map w T K E mb _ clock M.t h
theorem next_ty (ty : TypeId) (p : Value) : Instr.next p false ty = Instr.next p false 0 := rfl
theorem range_next {P : Program} (w : World) (r mb clock : Nat) (m vis : Ents) (hw : EWf m clock) (hv : Visits m vis) (hr : IterAt w r mb clock vis) (hb : w.heap[mb]? = some (.map (ents m).toArray clock)) :
    ((∀ x ∈ m, x.2.2 ∈ vis.map (·.2.2)) ∧ ∀ ty, (Instr.next (.pointer (some ⟨r, 0, none⟩)) false ty).run P w = .ok (.tuple #[.bool false]) w) ∨
    ∃ x ∈ m, ∃ w' : World, (∀ ty, (Instr.next (.pointer (some ⟨r, 0, none⟩)) false ty).run P w = .ok (.tuple #[.bool true, .string x.1, x.2.1]) w') ∧ Visits m (vis ++ [x]) ∧ IterAt w' r mb clock (vis ++ [x]) ∧
      (Instr.entry (.pointer (some ⟨r, 0, none⟩))).run P w' = .ok (.tuple #[.string x.1, x.2.1]) w' ∧ Keeps (fun k => k = r) w w' ∧ w'.heap.size = w.heap.size := by
  have hmem : ∀ e ∈ (ents m).toArray.toList, ∃ x ∈ m, e = { key := .string x.1, val := x.2.1, born := x.2.2 } := fun e he => by
    simp only [ents, List.mem_map] at he
    obtain ⟨x, hx, rfl⟩ := he
    exact ⟨x, hx, rfl⟩
  have hnd : ((ents m).toArray.toList.map (·.born)).Nodup := by
    have : (ents m).toArray.toList.map (·.born) = m.map (·.2.2) := by simp [ents]
    rw [this]
    exact hw.1
  rcases run_next_at (P := P) w 0 r mb clock clock (vis.map (fun x : ByteArray × Value × Nat => x.2.2)).toArray (ents m).toArray clock hr hb (fun e he => by
      obtain ⟨x, hx, rfl⟩ := hmem e he
      exact hw.2 x hx) (Nat.le_refl _) with ⟨h0, hrun⟩ | ⟨e, he, w1, hal, hrun⟩
  · refine .inl ⟨fun x hx => ?_, fun ty => by rw [next_ty]; exact hrun⟩
    have := all_seen _ _ h0 { key := .string x.1, val := x.2.1, born := x.2.2 } (by simp only [ents]; exact List.mem_map.2 ⟨x, hx, rfl⟩)
    simpa using this
  · obtain ⟨hem, hes⟩ := mem_left he
    obtain ⟨x, hx, rfl⟩ := hmem e hem
    have hr1 : w1.heap[r]? = some (.mapIter (some mb) clock (vis.map (·.2.2)).toArray clock) := by rcases hal with rfl | rfl <;> exact hr
    have hb1 : w1.heap[mb]? = some (.map (ents m).toArray clock) := by rcases hal with rfl | rfl <;> exact hb
    have hset := MapKept.heap_set (o' := .mapIter (some mb) clock ((vis.map (·.2.2)).toArray.push x.2.2) clock) hr1
    have hne : mb ≠ r := fun e => by rw [e] at hb1; rw [hb1] at hr1; cases hr1
    have hsz : (setBlock w1 r (.mapIter (some mb) clock ((vis.map (·.2.2)).toArray.push x.2.2) clock)).heap.size = w.heap.size := by
      rcases hal with rfl | rfl <;> simp [setBlock]
    have hit : ((vis ++ [x]).map (·.2.2)).toArray = (vis.map (·.2.2)).toArray.push x.2.2 := by simp
    refine .inr ⟨x, hx, _, fun ty => by rw [next_ty]; exact hrun, ⟨fun y hy => ?_, ?_⟩, ?_, run_entry_at _ r mb clock _ _ clock _ hset.1 ((hset.2 mb hne).trans hb1) hem hnd, ?_, hsz⟩
    · rcases List.mem_append.1 hy with h | h
      · exact hv.sub y h
      · simp at h; subst h; exact hx
    · rw [List.map_append, List.nodup_append]
      refine ⟨hv.nd, by simp, fun a ha b hb' hab => ?_⟩
      simp at hb'
      subst hab hb'
      have : (vis.map (·.2.2)).toArray.contains x.2.2 = true := by simpa using ha
      rw [this] at hes
      cases hes
    · unfold IterAt
      rw [hit]
      exact hset.1
    · rcases hal with rfl | rfl
      · exact ⟨rfl, rfl, rfl, by simp [setBlock], fun k _ hk => hset.2 k hk⟩
      · exact ⟨rfl, rfl, rfl, by simp [setBlock], fun k _ hk => hset.2 k hk⟩
theorem visits_le {m vis : Ents} (h : Visits m vis) : vis.length ≤ m.length := length_le_of_sub (nodup_of_map _ h.nd) h.sub
end Go.Proofs.YtfjndjbpgcggkaaDoor
