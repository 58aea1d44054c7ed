/- The disk's calls, for the laws: Rename, Remove, List. -/
import Derived.Test.YtfjndjbpgcggkaaDoorDK10
import Derived.Test.YtfjndjbpgcggkaaDoorDK15
set_option linter.unusedVariables false
set_option linter.unusedSimpArgs false
namespace Go.Proofs.YtfjndjbpgcggkaaDoor
open Go.RowKit

theorem tot_drenC (p q : ByteArray) (c : FObjs) : osum flen (drenC p q c) ≤ osum flen c := by
  unfold drenC
  split
  · exact Nat.le_refl _
  · rename_i h
    have h1 : (dfound p c).2 = 0 := Classical.byContradiction fun e => h (.inr (.inl e))
    have h2 : p ≠ q := fun e => h (.inr (.inr e))
    have := (ren_sum p q _ c (dfound_ok p c h1).1 h2).1
    omega
theorem tot_dremC (s : ByteArray) (c : FObjs) : osum flen (dremC s c) ≤ osum flen c := by
  unfold dremC
  split
  · rename_i h
    have := osum_del (f := flen) s _ c (dfound_ok s c h).1
    omega
  · exact Nat.le_refl _
theorem wRename (B db : Nat) (p q : ByteArray) (w : World) (F : Foot) (room : Int) (c : FObjs) (h : DW B w F db room c) (hs : p.size ≤ 35184372088832) (hs2 : q.size ≤ 35184372088832) :
    Calls Tryd.prog 22 #[.pointer (some ⟨db, 0, none⟩), .string p, .string q] w (Done B w F db room (drenC p q c) (.int .i64 (drenE p q c))) := by
  refine (dRename_any db p q w F room c h.at_ h.ok hs hs2 h.env.now).mono ?_
  rintro e w' ⟨rfl, h1, h2⟩
  exact ⟨rfl, h.grow h2 h1 (h.ok.sub (tot_drenC p q c)), h2⟩
theorem wRemove (B db : Nat) (s : ByteArray) (w : World) (F : Foot) (room : Int) (c : FObjs) (h : DW B w F db room c) (hs : s.size ≤ 35184372088832) :
    Calls Tryd.prog 35 #[.pointer (some ⟨db, 0, none⟩), .string s] w (Done B w F db room (dremC s c) (.int .i64 (dfound s c).2)) := by
  refine (dRemove_any db s w F room c h.at_ h.ok hs h.env.now).mono ?_
  rintro e w' ⟨rfl, h1, h2⟩
  exact ⟨rfl, h.grow h2 h1 (h.ok.sub (tot_dremC s c)), h2⟩
theorem wList (B db : Nat) (w : World) (F : Foot) (room : Int) (c : FObjs) (h : DW B w F db room c) (hn : c.length ≤ 1000000000) :
    Calls Tryd.prog 23 #[.pointer (some ⟨db, 0, none⟩)] w fun e w' => ∃ (A : Option Addr) (cp : Nat), e = .returned (.slice A (dkeys c).length cp) ∧ RS kString w' (New w w') A (dkeys c).length (dkeys c) ∧ Below w.heap.size w w' := by
  refine (dList_any db w F room c h.at_ hn).mono ?_
  rintro e w' ⟨v, rfl, hM⟩
  obtain ⟨A, cp, rfl, -, -, hr⟩ := hM.own.reads
  exact ⟨A, cp, rfl, hr, hM.below⟩
end Go.Proofs.YtfjndjbpgcggkaaDoor
