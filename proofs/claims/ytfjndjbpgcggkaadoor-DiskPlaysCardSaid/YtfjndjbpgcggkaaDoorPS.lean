/- Lists that rise by a text, against keyed lists: plain. No condition. -/
import Derived.Test.YtfjndjbpgcggkaaDoorMG1
import Derived.Test.YtfjndjbpgcggkaaDoorDK8
import Derived.Sort.Walk0
import Derived.WideShapes
set_option linter.unusedVariables false
set_option linter.unusedSimpArgs false
namespace Go.Proofs.YtfjndjbpgcggkaaDoor
open Go.RowKit

theorem btl {a b : ByteArray} (h : a.toList = b.toList) : a = b := Go.WideShapes.bytes_inj (by rwa [ByteArray.toList_eq, ByteArray.toList_eq] at h)
theorem bytesLess_iff (a b : ByteArray) : Op.bytesLess a.toList b.toList = true ↔ a.toList < b.toList := by rw [bytesLess_eq, decide_eq_true_eq]

section
variable {β : Type} (nm : β → ByteArray)
def belowG (s : ByteArray) (x : β) : Bool := Op.bytesLess (nm x).toList s.toList
def kpG (s : ByteArray) (l : List β) : Nat := (l.takeWhile (belowG nm s)).length
def isAtG (s : ByteArray) (l : List β) : Bool := match l[kpG nm s l]? with | some x => (nm x).toList == s.toList | none => false
def putG (f : β) (l : List β) : List β := l.take (kpG nm (nm f) l) ++ f :: l.drop (if isAtG nm (nm f) l = true then kpG nm (nm f) l + 1 else kpG nm (nm f) l)
def delG (s : ByteArray) (l : List β) : List β := l.take (kpG nm s l) ++ l.drop (kpG nm s l + 1)
def Rise (l : List β) : Prop := l.Pairwise fun x y => (nm x).toList < (nm y).toList

variable {nm}
theorem belowG_iff (s : ByteArray) (x : β) : belowG nm s x = true ↔ (nm x).toList < s.toList := bytesLess_iff _ _
theorem lt_trans3 {a b c : List UInt8} (h : a < b) (h2 : b < c) : a < c := List.lt_trans h h2
theorem lt_irr (a : List UInt8) : ¬ a < a := List.lt_irrefl a
theorem lt_of_not {a b : List UInt8} (h : ¬ a < b) (hn : a ≠ b) : b < a := by
  rw [List.not_lt] at h
  exact Decidable.byContradiction fun h2 => hn (List.le_antisymm (List.not_lt.1 h2) h)

/-- Where it is split: all before are below, what stands there is not, all behind are above. -/
theorem rise_split {l : List β} (s : ByteArray) : Rise nm l → (∀ x ∈ l.take (kpG nm s l), (nm x).toList < s.toList) ∧ (∀ x ∈ l.drop (kpG nm s l), ¬ (nm x).toList < s.toList) ∧ (∀ x, l[kpG nm s l]? = some x → ∀ y ∈ l.drop (kpG nm s l + 1), (nm x).toList < (nm y).toList) := by
  induction l with
  | nil => intro _; simp [kpG]
  | cons x l ih =>
    intro h
    obtain ⟨h1, h2⟩ := List.pairwise_cons.1 h
    obtain ⟨i1, i2, i3⟩ := ih h2
    by_cases hb : belowG nm s x = true
    · have hk : kpG nm s (x :: l) = kpG nm s l + 1 := by unfold kpG; rw [List.takeWhile_cons_of_pos hb]; rfl
      rw [hk]
      refine ⟨fun y hy => ?_, fun y hy => i2 y (by simpa using hy), fun y hy z hz => i3 y (by simpa using hy) z (by simpa using hz)⟩
      rw [List.take_succ_cons, List.mem_cons] at hy
      rcases hy with rfl | hy
      · exact (belowG_iff s y).1 hb
      · exact i1 y hy
    · have hk : kpG nm s (x :: l) = 0 := by unfold kpG; rw [List.takeWhile_cons_of_neg hb]; rfl
      rw [hk]
      have hx : ¬ (nm x).toList < s.toList := fun h => hb ((belowG_iff s x).2 h)
      refine ⟨by simp, fun y hy => ?_, fun y hy z hz => ?_⟩
      · rw [List.drop_zero, List.mem_cons] at hy
        rcases hy with rfl | hy
        · exact hx
        · exact fun h => hx (lt_trans3 (h1 y hy) h)
      · obtain rfl : x = y := by simpa using hy
        exact h1 z (by simpa using hz)
theorem isAtG_mem {l : List β} {s : ByteArray} (h : isAtG nm s l = true) : ∃ x, l[kpG nm s l]? = some x ∧ nm x = s ∧ x ∈ l := by
  unfold isAtG at h
  cases hx : l[kpG nm s l]? with
  | none => rw [hx] at h; cases h
  | some x => rw [hx] at h; exact ⟨x, rfl, btl (by simpa using h), List.mem_of_getElem? hx⟩
theorem mem_isAtG {l : List β} {s : ByteArray} (hr : Rise nm l) {x : β} (hx : x ∈ l) (hn : nm x = s) : l[kpG nm s l]? = some x ∧ isAtG nm s l = true := by
  obtain ⟨h1, h2, h3⟩ := rise_split s hr
  have hd : x ∈ l.drop (kpG nm s l) := by
    rw [← List.take_append_drop (kpG nm s l) l, List.mem_append] at hx
    rcases hx with hx | hx
    · exact absurd (h1 x hx) (by rw [hn]; exact lt_irr _)
    · exact hx
  have hlt : kpG nm s l < l.length := by
    rcases Nat.lt_or_ge (kpG nm s l) l.length with h | h
    · exact h
    · rw [List.drop_of_length_le h] at hd; cases hd
  obtain ⟨y, hy⟩ : ∃ y, l[kpG nm s l]? = some y := ⟨_, List.getElem?_eq_getElem hlt⟩
  have hyx : y = x := by
    rw [List.drop_eq_getElem_cons hlt, List.mem_cons] at hd
    have hyy : l[kpG nm s l] = y := (List.getElem?_eq_some_iff.1 hy).2
    rcases hd with hd | hd
    · exact (hd.trans hyy).symm
    · have := h3 y hy x hd
      rw [hn] at this
      exact absurd this (h2 y (by rw [List.drop_eq_getElem_cons hlt, hyy]; exact List.mem_cons_self))
  subst hyx
  refine ⟨hy, ?_⟩
  unfold isAtG
  rw [hy]
  simp [hn]
theorem isAtG_iff {l : List β} (s : ByteArray) (hr : Rise nm l) : isAtG nm s l = true ↔ ∃ x ∈ l, nm x = s :=
  ⟨fun h => let ⟨x, _, hn, hm⟩ := isAtG_mem h; ⟨x, hm, hn⟩, fun ⟨_, hx, hn⟩ => (mem_isAtG hr hx hn).2⟩
theorem rise_inj {l : List β} (hr : Rise nm l) {x y : β} (hx : x ∈ l) (hy : y ∈ l) (h : nm x = nm y) : x = y := by
  have h1 := (mem_isAtG hr hx rfl).1
  have h2 := (mem_isAtG hr hy rfl).1
  rw [h] at h1
  rw [h1] at h2
  injection h2
/-- What is behind the place: above. -/
theorem drop_above {l : List β} (s : ByteArray) (hr : Rise nm l) : ∀ x ∈ l.drop (if isAtG nm s l = true then kpG nm s l + 1 else kpG nm s l), s.toList < (nm x).toList := by
  obtain ⟨h1, h2, h3⟩ := rise_split s hr
  intro x hx
  split at hx
  · rename_i hat
    obtain ⟨y, hy, hn, _⟩ := isAtG_mem hat
    have := h3 y hy x hx
    rwa [hn] at this
  · rename_i hat
    refine lt_of_not (h2 x hx) fun e => hat ?_
    exact (mem_isAtG hr (List.mem_of_mem_drop hx) (btl e)).2
theorem mem_putG {l : List β} (hr : Rise nm l) (f x : β) : x ∈ putG nm f l ↔ x = f ∨ (x ∈ l ∧ nm x ≠ nm f) := by
  obtain ⟨h1, h2, h3⟩ := rise_split (nm f) hr
  have h4 := drop_above (nm f) hr
  unfold putG
  rw [List.mem_append, List.mem_cons]
  constructor
  · rintro (h | h | h)
    · exact .inr ⟨List.mem_of_mem_take h, fun e => lt_irr _ (e ▸ h1 x h)⟩
    · exact .inl h
    · exact .inr ⟨List.mem_of_mem_drop h, fun e => lt_irr _ (e ▸ h4 x h)⟩
  · rintro (h | ⟨h, hn⟩)
    · exact .inr (.inl h)
    · rw [← List.take_append_drop (kpG nm (nm f) l) l, List.mem_append] at h
      rcases h with h | h
      · exact .inl h
      · refine .inr (.inr ?_)
        split
        · rename_i hat
          obtain ⟨y, hy, hny, _⟩ := isAtG_mem hat
          obtain ⟨hlt, hyy⟩ := List.getElem?_eq_some_iff.1 hy
          rw [List.drop_eq_getElem_cons hlt, List.mem_cons] at h
          rcases h with h | h
          · exact absurd ((congrArg nm (h.trans hyy)).trans hny) hn
          · exact h
        · exact h
theorem mem_delG {l : List β} (hr : Rise nm l) (s : ByteArray) (hat : isAtG nm s l = true) (x : β) : x ∈ delG nm s l ↔ x ∈ l ∧ nm x ≠ s := by
  obtain ⟨h1, h2, h3⟩ := rise_split s hr
  obtain ⟨y, hy, hny, _⟩ := isAtG_mem hat
  obtain ⟨hlt, hyy⟩ := List.getElem?_eq_some_iff.1 hy
  unfold delG
  rw [List.mem_append]
  constructor
  · rintro (h | h)
    · exact ⟨List.mem_of_mem_take h, fun e => lt_irr _ (e ▸ h1 x h)⟩
    · refine ⟨List.mem_of_mem_drop h, fun e => ?_⟩
      have := h3 y hy x h
      rw [hny, e] at this
      exact lt_irr _ this
  · rintro ⟨h, hn⟩
    rw [← List.take_append_drop (kpG nm s l) l, List.mem_append, List.drop_eq_getElem_cons hlt, List.mem_cons] at h
    rcases h with h | h | h
    · exact .inl h
    · exact absurd ((congrArg nm (h.trans hyy)).trans hny) hn
    · exact .inr h
theorem rise_putG {l : List β} (hr : Rise nm l) (f : β) : Rise nm (putG nm f l) := by
  obtain ⟨h1, h2, h3⟩ := rise_split (nm f) hr
  have h4 := drop_above (nm f) hr
  unfold putG
  refine List.pairwise_append.2 ⟨hr.sublist (List.take_sublist _ _), List.pairwise_cons.2 ⟨h4, hr.sublist (List.drop_sublist _ _)⟩, fun x hx y hy => ?_⟩
  rw [List.mem_cons] at hy
  rcases hy with rfl | hy
  · exact h1 x hx
  · exact lt_trans3 (h1 x hx) (h4 y hy)
theorem rise_delG {l : List β} (hr : Rise nm l) (s : ByteArray) : Rise nm (delG nm s l) := by
  unfold delG
  refine hr.sublist ?_
  conv => rhs; rw [← List.take_append_drop (kpG nm s l) l]
  refine List.Sublist.append (List.Sublist.refl _) ?_
  rw [← List.drop_drop]
  exact List.drop_sublist _ _
theorem rise_nodup {l : List β} (hr : Rise nm l) : l.Nodup := by
  refine hr.imp fun {x y} h e => ?_
  subst e
  exact lt_irr _ h

/-- A rising list says what a keyed one says. -/
structure Agree {α : Type} (nm : β → ByteArray) (enc : ByteArray → α → β) (l : List β) (c : Objs α) : Prop where
  rise : Rise nm l
  nd : (c.map (·.1)).Nodup
  iff : ∀ x, x ∈ l ↔ ∃ s a, x = enc s a ∧ look s c = some a
section
variable {α : Type} {enc : ByteArray → α → β} {l : List β} {c : Objs α}
theorem Agree.nil : Agree nm enc [] ([] : Objs α) := ⟨List.Pairwise.nil, by simp, fun x => ⟨fun h => (by cases h), fun ⟨_, _, _, h⟩ => (by cases h)⟩⟩
theorem Agree.mem (h : Agree nm enc l c) {s : ByteArray} {a : α} (hl : look s c = some a) : enc s a ∈ l := (h.iff _).2 ⟨s, a, rfl, hl⟩
theorem Agree.at_ (h : Agree nm enc l c) (he : ∀ s a, nm (enc s a) = s) {s : ByteArray} {a : α} (hl : look s c = some a) : isAtG nm s l = true ∧ l[kpG nm s l]? = some (enc s a) :=
  (mem_isAtG h.rise (h.mem hl) (he s a)).symm
theorem Agree.no (h : Agree nm enc l c) (he : ∀ s a, nm (enc s a) = s) {s : ByteArray} (hl : look s c = none) : isAtG nm s l = false := by
  cases hat : isAtG nm s l with
  | false => rfl
  | true =>
    obtain ⟨x, hx, hn⟩ := (isAtG_iff s h.rise).1 hat
    obtain ⟨t, a, rfl, ht⟩ := (h.iff x).1 hx
    rw [he] at hn
    subst hn
    rw [hl] at ht
    cases ht
theorem Agree.put (h : Agree nm enc l c) (he : ∀ s a, nm (enc s a) = s) (s : ByteArray) (a : α) : Agree nm enc (putG nm (enc s a) l) (oput s a c) := by
  refine ⟨rise_putG h.rise _, nodup_oput s a c h.nd, fun x => ?_⟩
  rw [mem_putG h.rise, he]
  constructor
  · rintro (rfl | ⟨hx, hn⟩)
    · exact ⟨s, a, rfl, look_oput_same s a c⟩
    · obtain ⟨t, b, rfl, ht⟩ := (h.iff x).1 hx
      rw [he] at hn
      exact ⟨t, b, rfl, (look_oput_other s t a c hn).trans ht⟩
  · rintro ⟨t, b, rfl, ht⟩
    by_cases hts : t = s
    · subst hts
      rw [look_oput_same] at ht
      injection ht with ht
      subst ht
      exact .inl rfl
    · rw [look_oput_other s t a c hts] at ht
      exact .inr ⟨h.mem ht, by rw [he]; exact hts⟩
theorem Agree.del (h : Agree nm enc l c) (he : ∀ s a, nm (enc s a) = s) (s : ByteArray) (hl : look s c ≠ none) : Agree nm enc (delG nm s l) (odel s c) := by
  obtain ⟨a, ha⟩ := Option.ne_none_iff_exists'.1 hl
  refine ⟨rise_delG h.rise _, nodup_odel s c h.nd, fun x => ?_⟩
  rw [mem_delG h.rise s (h.at_ he ha).1]
  constructor
  · rintro ⟨hx, hn⟩
    obtain ⟨t, b, rfl, ht⟩ := (h.iff x).1 hx
    rw [he] at hn
    exact ⟨t, b, rfl, (look_odel_other s t hn c).trans ht⟩
  · rintro ⟨t, b, rfl, ht⟩
    by_cases hts : t = s
    · subst hts
      rw [look_odel_same t c h.nd] at ht
      cases ht
    · rw [look_odel_other s t hts c] at ht
      exact ⟨h.mem ht, by rw [he]; exact hts⟩
theorem mem_look {c : Objs α} (hnd : (c.map (·.1)).Nodup) : ∀ {s : ByteArray} {a : α}, (s, a) ∈ c → look s c = some a := by
  induction c with
  | nil => intro s a h; cases h
  | cons x r ih =>
    intro s a h
    rw [List.map_cons, List.nodup_cons] at hnd
    rw [List.mem_cons] at h
    unfold look
    rcases h with h | h
    · subst h; simp
    · have hne : s ≠ x.1 := fun e => hnd.1 (e ▸ List.mem_map_of_mem (f := (·.1)) h)
      rw [if_neg hne]
      exact ih hnd.2 h
theorem Agree.perm (h : Agree nm enc l c) (he : ∀ s a, nm (enc s a) = s) (hi : ∀ s a b, enc s a = enc s b → a = b) : (c.map fun x => enc x.1 x.2).Perm l := by
  refine perm_of_mem ?_ (rise_nodup h.rise) fun x => ?_
  · have h0 := h.nd
    refine nodup_of_map nm ?_
    rw [List.map_map]
    have : (nm ∘ fun x : ByteArray × α => enc x.1 x.2) = (·.1) := by funext x; exact he _ _
    rw [this]
    exact h0
  · rw [h.iff]
    constructor
    · intro hx
      obtain ⟨y, hy, rfl⟩ := List.mem_map.1 hx
      exact ⟨y.1, y.2, rfl, mem_look h.nd hy⟩
    · rintro ⟨s, a, rfl, ht⟩
      exact List.mem_map.2 ⟨(s, a), look_mem s a c ht, rfl⟩
theorem osum_map (f : α → Nat) : ∀ c : Objs α, osum f c = (c.map fun x => f x.2).sum
  | [] => rfl
  | x :: r => by simp [osum, osum_map f r]
theorem Agree.sum (h : Agree nm enc l c) (he : ∀ s a, nm (enc s a) = s) (hi : ∀ s a b, enc s a = enc s b → a = b) (f : β → Nat) (g : α → Nat) (hfg : ∀ s a, f (enc s a) = g a) : (l.map f).sum = osum g c := by
  rw [osum_map, ← ((h.perm he hi).map f).sum_nat, List.map_map]
  congr 1
  exact List.map_congr_left fun x _ => (hfg x.1 x.2)
theorem Agree.len (h : Agree nm enc l c) (he : ∀ s a, nm (enc s a) = s) (hi : ∀ s a b, enc s a = enc s b → a = b) : l.length = c.length := by
  have := (h.perm he hi).length_eq
  simpa using this.symm
theorem sortB_rise {xs : List ByteArray} (h : xs.Pairwise fun x y => x.toList < y.toList) : sortB xs = xs := by
  unfold sortB
  have : (xs.map fun s => s.data.toList).mergeSort (fun x y => decide (x ≤ y)) = xs.map fun s => s.data.toList := by
    refine List.mergeSort_of_pairwise ?_
    rw [List.pairwise_map]
    refine h.imp fun {a b} hab => ?_
    rw [ByteArray.toList_eq, ByteArray.toList_eq] at hab
    rw [decide_eq_true_eq]
    exact Std.le_of_lt hab
  rw [this, List.map_map]
  exact List.map_id _
theorem Agree.names (h : Agree nm enc l c) (he : ∀ s a, nm (enc s a) = s) (hi : ∀ s a b, enc s a = enc s b → a = b) : l.map nm = sortB (c.map (·.1)) := by
  have hp := ((h.perm he hi).map nm)
  rw [List.map_map] at hp
  have : (nm ∘ fun x : ByteArray × α => enc x.1 x.2) = (·.1) := by funext x; exact he _ _
  rw [this] at hp
  rw [sortB_perm hp]
  exact (sortB_rise (List.pairwise_map.2 h.rise)).symm
/-- One in the middle is turned, its name stays. -/
theorem Agree.mid (he : ∀ s a, nm (enc s a) = s) (hi : ∀ s a b, enc s a = enc s b → a = b) {l1 l2 : List β} {s : ByteArray} {a a' : α} (h : Agree nm enc (l1 ++ enc s a :: l2) c) : Agree nm enc (l1 ++ enc s a' :: l2) (oput s a' c) ∧ look s c = some a := by
  have hr := h.rise
  unfold Rise at hr
  rw [List.pairwise_append, List.pairwise_cons] at hr
  obtain ⟨r1, ⟨r2, r3⟩, r4⟩ := hr
  have hla : look s c = some a := by
    obtain ⟨t, b, e, ht⟩ := (h.iff (enc s a)).1 (by simp)
    have hst : s = t := by have := congrArg nm e; rwa [he, he] at this
    subst hst
    rw [hi _ _ _ e]
    exact ht
  refine ⟨⟨?_, nodup_oput s a' c h.nd, fun x => ?_⟩, hla⟩
  · unfold Rise
    rw [List.pairwise_append, List.pairwise_cons]
    refine ⟨r1, ⟨fun y hy => by have := r2 y hy; rwa [he] at this ⊢, r3⟩, fun x hx y hy => ?_⟩
    rw [List.mem_cons] at hy
    rcases hy with rfl | hy
    · have := r4 x hx (enc s a) List.mem_cons_self
      rwa [he] at this ⊢
    · exact r4 x hx y (List.mem_cons_of_mem _ hy)
  · have hn1 : ∀ x ∈ l1, nm x ≠ s := fun x hx e => by
      have := r4 x hx (enc s a) List.mem_cons_self
      rw [he, e] at this
      exact lt_irr _ this
    have hn2 : ∀ x ∈ l2, nm x ≠ s := fun x hx e => by
      have := r2 x hx
      rw [he, e] at this
      exact lt_irr _ this
    constructor
    · intro hx
      rw [List.mem_append, List.mem_cons] at hx
      rcases hx with hx | rfl | hx
      · obtain ⟨t, b, rfl, ht⟩ := (h.iff x).1 (by rw [List.mem_append]; exact .inl hx)
        have := hn1 _ hx
        rw [he] at this
        exact ⟨t, b, rfl, (look_oput_other s t a' c this).trans ht⟩
      · exact ⟨s, a', rfl, look_oput_same s a' c⟩
      · obtain ⟨t, b, rfl, ht⟩ := (h.iff x).1 (by rw [List.mem_append, List.mem_cons]; exact .inr (.inr hx))
        have := hn2 _ hx
        rw [he] at this
        exact ⟨t, b, rfl, (look_oput_other s t a' c this).trans ht⟩
    · rintro ⟨t, b, rfl, ht⟩
      by_cases hts : t = s
      · subst hts
        rw [look_oput_same] at ht
        injection ht with ht
        subst ht
        simp
      · rw [look_oput_other s t a' c hts] at ht
        have := h.mem ht
        rw [List.mem_append, List.mem_cons] at this ⊢
        rcases this with h1 | h1 | h1
        · exact .inl h1
        · have := congrArg nm h1
          rw [he, he] at this
          exact absurd this hts
        · exact .inr (.inr h1)
end
end
end Go.Proofs.YtfjndjbpgcggkaaDoor
