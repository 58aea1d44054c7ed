/- The document's disk and the program's hold the same: plain. No condition. -/
import Derived.Test.YtfjndjbpgcggkaaDoorPS
import Derived.Test.YtfjndjbpgcggkaaDoorDRC
set_option linter.unusedVariables false
set_option linter.unusedSimpArgs false
namespace Go.Proofs.YtfjndjbpgcggkaaDoor
open Go.RowKit

def encF (s : ByteArray) (a : List Int × Nat) : RFile := ⟨s, a.1, (a.2 : Int)⟩
abbrev DAgree (l : List RFile) (c : FObjs) : Prop := Agree RFile.name encF l c
theorem encF_nm (s : ByteArray) (a : List Int × Nat) : (encF s a).name = s := rfl
theorem encF_inj (s : ByteArray) (a b : List Int × Nat) (h : encF s a = encF s b) : a = b := by
  obtain ⟨x, n⟩ := a
  obtain ⟨y, m⟩ := b
  simp only [encF, RFile.mk.injEq, true_and] at h
  obtain ⟨rfl, h⟩ := h
  rw [show n = m by omega]
theorem kp_eq (s : ByteArray) (l : List RFile) : kp s l = kpG RFile.name s l := rfl
theorem isAt_eq (s : ByteArray) (l : List RFile) : isAt s l = isAtG RFile.name s l := by
  unfold isAt isAtG
  rw [← kp_eq]
  cases l[kp s l]? <;> rfl
theorem rput_eq (f : RFile) (l : List RFile) : rput f l = putG RFile.name f l := by
  unfold rput putG
  rw [isAt_eq, kp_eq]
section
variable {l : List RFile} {c : FObjs}
theorem DAgree.sum (h : DAgree l c) : rsum l = osum flen c := Agree.sum h encF_nm encF_inj (fun x => x.b.length) flen (fun _ _ => rfl)
theorem DAgree.len (h : DAgree l c) : l.length = c.length := Agree.len h encF_nm encF_inj
theorem DAgree.names (h : DAgree l c) : l.map RFile.name = dkeys c := Agree.names h encF_nm encF_inj
theorem DAgree.at_ (h : DAgree l c) {s : ByteArray} {a : List Int × Nat} (hl : look s c = some a) : isAt s l = true ∧ l[kp s l]? = some (encF s a) := by rw [isAt_eq, kp_eq]; exact Agree.at_ h encF_nm hl
theorem DAgree.no (h : DAgree l c) {s : ByteArray} (hl : look s c = none) : isAt s l = false := by rw [isAt_eq]; exact Agree.no h encF_nm hl
theorem DAgree.put (h : DAgree l c) (s : ByteArray) (a : List Int × Nat) : DAgree (rput (encF s a) l) (oput s a c) := by rw [rput_eq]; exact Agree.put h encF_nm s a
theorem DAgree.got (h : DAgree l c) (s : ByteArray) : (rgot s l).2 = (dfound s c).2 ∧ (rgot s l).1.b = (dfound s c).1.1 ∧ (rgot s l).1.loose = ((dfound s c).1.2 : Nat) ∧ ((dfound s c).2 = 0 → (rgot s l).1 = encF s (dfound s c).1 ∧ look s c = some (dfound s c).1) := by
  unfold rgot dfound
  cases hv : validName s with
  | false => rw [if_pos rfl, if_pos rfl]; exact ⟨rfl, rfl, rfl, fun h => absurd h (by decide)⟩
  | true =>
    rw [if_neg (show ¬ true = false by decide), if_neg (show ¬ true = false by decide)]
    cases hl : look s c with
    | none =>
      rw [if_neg (show ¬ isAt s l = true by rw [h.no hl]; decide)]
      exact ⟨rfl, rfl, rfl, fun h => absurd h (by decide)⟩
    | some a =>
      obtain ⟨h1, h2⟩ := h.at_ hl
      rw [if_pos h1, h2]
      exact ⟨rfl, rfl, rfl, fun _ => ⟨rfl, rfl⟩⟩
theorem DAgree.appE (h : DAgree l c) (s : ByteArray) (n : Nat) (room : Int) : rappE s n room l = dappE s n room c := by
  unfold rappE dappE
  rw [h.sum]
theorem DAgree.file (h : DAgree l c) (s : ByteArray) (hv : validName s = true) : rfile s l = encF s (dfound s c).1 := by
  unfold rfile dfound
  rw [if_neg (show ¬ validName s = false by rw [hv]; decide)]
  cases hl : look s c with
  | none => rw [if_neg (show ¬ isAt s l = true by rw [h.no hl]; decide)]; rfl
  | some a =>
    obtain ⟨h1, h2⟩ := h.at_ hl
    rw [if_pos h1, h2]
    rfl
theorem DAgree.app (h : DAgree l c) (s : ByteArray) (b : List Int) (room : Int) : DAgree (rappL s b room l) (dappC s b room c) := by
  unfold rappL dappC
  rw [h.appE]
  by_cases he : dappE s b.length room c = 0
  · rw [if_pos he, if_pos he]
    have hv : validName s = true := by
      cases hv : validName s with
      | true => rfl
      | false => unfold dappE at he; rw [if_pos hv] at he; exact absurd he (by decide)
    rw [h.file s hv]
    have := h.put s ((dfound s c).1.1 ++ b, (dfound s c).1.2 + b.length)
    unfold encF at this ⊢
    simpa using this
  · rw [if_neg he, if_neg he]; exact h
theorem DAgree.sync (h : DAgree l c) (s : ByteArray) : DAgree (rsyncL s l) (dsyncC s c) := by
  obtain ⟨h1, h2, h3, h4⟩ := h.got s
  unfold rsyncL dsyncC
  rw [h1]
  by_cases he : (dfound s c).2 = 0
  · rw [if_pos he, if_pos he, (h4 he).1]
    exact h.put s ((dfound s c).1.1, 0)
  · rw [if_neg he, if_neg he]; exact h
theorem DAgree.cut (h : DAgree l c) (s : ByteArray) (n : Int) : DAgree (rcutL s n l) (dcutC s n c) := by
  obtain ⟨h1, h2, h3, h4⟩ := h.got s
  unfold rcutL dcutC
  rw [h1]
  by_cases he : (dfound s c).2 = 0
  · rw [if_pos he, if_pos he, (h4 he).1]
    exact h.put s ((dfound s c).1.1.take (clampN n (dfound s c).1.1.length), 0)
  · rw [if_neg he, if_neg he]; exact h
theorem DAgree.rem (h : DAgree l c) (s : ByteArray) : DAgree (rremL s l) (dremC s c) := by
  obtain ⟨h1, h2, h3, h4⟩ := h.got s
  unfold rremL dremC
  rw [h1]
  by_cases he : (dfound s c).2 = 0
  · rw [if_pos he, if_pos he]
    exact Agree.del h encF_nm s (by rw [(h4 he).2]; exact fun h => by cases h)
  · rw [if_neg he, if_neg he]; exact h
theorem DAgree.renE (h : DAgree l c) (p q : ByteArray) : rrenE p q l = drenE p q c := by
  obtain ⟨h1, h2, h3, h4⟩ := h.got p
  unfold rrenE drenE
  by_cases hq : validName q = false
  · rw [if_pos (.inr hq), if_pos hq]
  · rw [if_neg hq]
    by_cases hp : validName p = false
    · rw [if_pos (.inl hp)]
      unfold dfound
      rw [if_pos hp]
    · rw [if_neg (by rintro (h | h) <;> contradiction), h1]
theorem Agree.congr {β α : Type} {nm : β → ByteArray} {enc : ByteArray → α → β} {l : List β} {c c' : Objs α} (h : Agree nm enc l c) (hn : (c'.map (·.1)).Nodup) (hl : ∀ s, look s c' = look s c) : Agree nm enc l c' :=
  ⟨h.rise, hn, fun x => by rw [h.iff]; simp only [hl]⟩
theorem DAgree.ren (h : DAgree l c) (p q : ByteArray) : DAgree (rrenL p q l) (drenC p q c) := by
  have hE := h.renE p q
  obtain ⟨h1, h2, h3, h4⟩ := h.got p
  unfold rrenL drenC
  rw [hE]
  by_cases hx : validName q = false ∨ (dfound p c).2 ≠ 0 ∨ p = q
  · rw [if_pos hx, if_pos ?_]
    · exact h
    · unfold drenE
      rcases hx with hx | hx | hx
      · rw [if_pos hx]; exact .inl (by decide)
      · left; split
        · decide
        · exact hx
      · exact .inr hx
  · have hq : ¬ validName q = false := fun h => hx (.inl h)
    have he : (dfound p c).2 = 0 := Decidable.byContradiction fun h => hx (.inr (.inl h))
    have hpq : p ≠ q := fun h => hx (.inr (.inr h))
    rw [if_neg hx, if_neg ?_]
    · obtain ⟨g1, g2⟩ := h4 he
      rw [g1]
      have hr := h.rem p
      unfold dremC at hr
      rw [if_pos he] at hr
      refine Agree.congr (hr.put q (dfound p c).1) (nodup_odel p _ (nodup_oput q _ c h.nd)) fun s => ?_
      by_cases hsp : s = p
      · subst hsp
        rw [look_odel_same s _ (nodup_oput q _ c h.nd), look_oput_other q s _ _ hpq, look_odel_same s c h.nd]
      · rw [look_odel_other p s hsp]
        by_cases hsq : s = q
        · subst hsq; rw [look_oput_same, look_oput_same]
        · rw [look_oput_other q s _ _ hsq, look_oput_other q s _ _ hsq, look_odel_other p s hsp]
    · unfold drenE
      rw [if_neg hq]
      rintro (h | h)
      · exact h he
      · exact hpq h
theorem DAgree.loose (h : DAgree l c) (s : ByteArray) (hv : validName s = true ∨ look s c = none) : (rgot s l).1.loose = (looseOf s c : Nat) := by
  rw [(h.got s).2.2.1]
  unfold looseOf dfound
  rcases hv with hv | hv
  · rw [if_neg (by rw [hv]; decide)]
    cases look s c <;> rfl
  · rw [hv]
    split <;> rfl

theorem crash_agree : ∀ (l2 l1 : List RFile) (c : FObjs) (ks : List Int), DAgree (l1 ++ l2) c → DAgree (l1 ++ rcrash l2 ks) (crashGo (l2.map RFile.name) c ks)
  | [], l1, c, ks, h => by simpa [rcrash, crashGo] using h
  | f :: l2, l1, c, ks, h => by
    obtain ⟨s, a, hf, hl⟩ := (h.iff f).1 (by simp)
    subst hf
    rw [List.map_cons, show (encF s a).name = s from rfl, crashGo_cons, hl]
    rw [rcrash_cons]
    dsimp only
    by_cases h0 : a.2 = 0
    · rw [if_pos h0, if_pos (show (encF s a).loose = 0 by show (a.2 : Int) = 0; omega)]
      have := crash_agree l2 (l1 ++ [encF s a]) c ks (by simpa using h)
      simpa using this
    · rw [if_neg h0, if_neg (show ¬ (encF s a).loose = 0 by show ¬ (a.2 : Int) = 0; omega)]
      have hm := (Agree.mid (a' := (a.1.take (a.1.length - a.2 + crashK ks a.2), 0)) encF_nm encF_inj h).1
      have := crash_agree l2 (l1 ++ [encF s (a.1.take (a.1.length - a.2 + crashK ks a.2), 0)]) _ ks.tail (by simpa using hm)
      simpa [rcut1, encF] using this
theorem DAgree.crash (h : DAgree l c) (ks : List Int) : DAgree (rcrash l ks) (crash ks c) := by
  have := crash_agree l [] c ks h
  rw [h.names] at this
  exact this
end
end Go.Proofs.YtfjndjbpgcggkaaDoor
