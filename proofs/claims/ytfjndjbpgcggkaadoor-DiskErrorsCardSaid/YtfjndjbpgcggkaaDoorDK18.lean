/- The law DiskErrors, walked. -/
import Derived.Test.YtfjndjbpgcggkaaDoorDK17
set_option linter.unusedVariables false
set_option linter.unusedSimpArgs false
namespace Go.Proofs.YtfjndjbpgcggkaaDoor
open Go.RowKit

def nT : ByteArray := ⟨#[116, 104, 101, 114, 101]⟩
theorem there_list : nT.toList = [116, 104, 101, 114, 101] := by rw [ByteArray.toList_eq]; rfl
theorem valid_there : validName nT = true := by decide +kernel
theorem lit1m (k : IntKind) (T : TypeId) (W : World) (x : Int) (fr : Nat × Nat) : RS (kInt k) (W.alloc (.cells #[.int k x] T fr)) (fun j => j = W.heap.size) (some ⟨W.heap.size, 0, none⟩) 1 [x] :=
  ⟨rfl, [.int k x], Elems.single (K := kInt k) rfl, fun _ => ⟨_, rfl, rfl, World.news_of_block (heap_alloc_new W _)⟩⟩
/-- What every call tells of a name that is none, or is not there. -/
theorem errs_bad (s : ByteArray) (c : FObjs) (n : Int) (E : Int) (hE : E ≠ 0) (h : dfound s c = (([], 0), E)) : dsyncC s c = c ∧ dcutC s n c = c ∧ dremC s c = c ∧ drenC s nT c = c ∧ drenE s nT c = E := by
  have h2 : (dfound s c).2 = E := by rw [h]
  refine ⟨?_, ?_, ?_, ?_, ?_⟩
  · unfold dsyncC; rw [if_neg (by rw [h2]; exact hE)]
  · unfold dcutC; rw [if_neg (by rw [h2]; exact hE)]
  · unfold dremC; rw [if_neg (by rw [h2]; exact hE)]
  · unfold drenC; rw [if_pos (.inr (.inl (by rw [h2]; exact hE)))]
  · unfold drenE; rw [if_neg (by rw [valid_there]; decide), h2]
/-- there's renaming, and the last Append. -/
theorem errs_end (s : ByteArray) (hs : s ≠ nT) : ∃ k a c2 c3, drenE nT s [(nT, ([120], 1))] = k ∧ drenC nT s [(nT, ([120], 1))] = c2 ∧ dappE s 0 100 c2 = a ∧ dappC s [] 100 c2 = c3 ∧ osum flen c2 = 1 ∧ osum flen c3 = 1 ∧ k = (if validName s = true then 0 else 6) ∧ a = (if validName s = true then 0 else 6) := by
  refine ⟨_, _, _, _, rfl, rfl, rfl, rfl, ?_⟩
  have hf : dfound nT [(nT, ([120], 1))] = (([120], 1), 0) := dfound_one nT _ valid_there
  cases hv : validName s with
  | false =>
    have h1 : drenC nT s [(nT, ([120], 1))] = [(nT, ([120], 1))] := by unfold drenC; rw [if_pos (.inl hv)]
    have h2 : drenE nT s [(nT, ([120], 1))] = 6 := by unfold drenE; rw [if_pos hv]
    have h3 : dappE s 0 100 [(nT, ([120], 1))] = 6 := by unfold dappE; rw [if_pos hv]
    have h4 : dappC s [] 100 [(nT, ([120], 1))] = [(nT, ([120], 1))] := by unfold dappC; rw [if_neg (by rw [show ([] : List Int).length = 0 from rfl, h3]; decide)]
    rw [h1, h2, h3, h4]
    simp [osum, flen]
  | true =>
    have h1 : drenC nT s [(nT, ([120], 1))] = [(s, ([120], 1))] := by
      unfold drenC
      rw [if_neg (by rintro (h | h | h); rw [hv] at h; cases h; exact h (by rw [hf]); exact hs h.symm), hf]
      simp [oput, look, odel, hs, hs.symm]
    have h2 : drenE nT s [(nT, ([120], 1))] = 0 := by unfold drenE; rw [if_neg (by rw [hv]; decide), hf]
    obtain ⟨h3, h4⟩ := app_one s [] [120] 1 0 100 hv rfl (by simp)
    rw [h1, h2, h3, h4]
    simp [osum, flen]

set_option maxHeartbeats 8000000 in
set_option maxRecDepth 100000 in
theorem DErrors_law (s : ByteArray) (w : World) (hT : TabsBelow w.heap.size w) :
    Calls Tryd.prog 8 #[.string s] w fun e w' => e = .returned (.bool true) ∧ Below w.heap.size w w' := by
  have kc := fun (w : World) (C : Array Value) (n c : Nat) => Lib.run_convert_bytes_const (P := Tryd.prog) w 26 5 C n c Tryd.underlying26 Tryd.underlying5
  have hE0 : Env w.heap.size w := ⟨hT, Nat.le_refl _⟩
  have HS := Lib.hid (dalive_any w hT)
  obtain ⟨B, hB⟩ : ∃ B, Hid (w.heap.size = B) := ⟨_, rfl⟩
  rw [hB.out] at hE0 HS ⊢
  clear hT
  have HE0 := Lib.hid hE0
  clear hE0
  by_cases hlen : 100 < s.size
  · go_enter Tryd.func8, Tryd.ntmps8
    go_wp2_with fail
    refine HS.out.mono ?_
    rintro e w1 ⟨rfl, hb1⟩
    go_wp2
    go_ret
    exact ⟨rfl, hb1⟩
  · have hsz : s.size ≤ 35184372088832 := by omega
    have HVL := Lib.hid (fun W => dvalid_any s W hsz)
    go_enter Tryd.func8, Tryd.ntmps8
    go_wp2_with fail
    refine HS.out.mono ?_
    rintro e w1 ⟨rfl, hb1⟩
    have hE1 := HE0.out.step hb1
    go_wp2_with fail
    refine (wNew B 100 w1 hE1 (by omega) (by omega)).mono ?_
    rintro e w2 ⟨sb, rfl, h2, hb2⟩
    have hb2 := hb1.trans (hb2.mono hE1.le)
    generalize New w1 w2 = F2 at h2
    have h2 : DW B w2 F2 sb 100 [] := h2
    clear hb1 hE1
    go_wp2_with fail
    have hr := lit1m .u8 5 w2 120 (1, 2)
    obtain ⟨h3, ha⟩ := h2.lit (.cells #[.int .u8 120] 5 (1, 2))
    have hb3 : Below B w (w2.alloc (.cells #[.int .u8 120] 5 (1, 2))) := hb2.alloc (by have := h2.env.le; omega) _
    generalize w2.alloc (.cells #[.int .u8 120] 5 (1, 2)) = w3 at h3 hr hb3 ⊢
    refine (wApp B sb nT _ 1 1 [120] w3 F2 _ _ _ h3 (by decide) hr ⟨by omega, by omega⟩ ha (by simp [osum])).mono ?_
    rintro e w4 ⟨rfl, h4, hk4⟩
    have hb4 := hb3.trans (h3.belowB hk4)
    generalize Grow F2 w3 w4 = F4 at h4
    have hp := app_new nT [120] 1 100 valid_there rfl (by omega)
    rw [hp.2] at h4
    rw [hp.1]
    clear hk4 h3 hb3 hr ha h2 hb2 hp
    have H4 := Lib.hid (And.intro h4 hb4)
    clear h4 hb4
    by_cases hst : s = nT
    · subst hst
      have hq : (nT.toList == [116, 104, 101, 114, 101]) = true := by rw [there_list]; rfl
      go_wp2_with fail
      refine (HVL.out _).mono ?_
      rintro e w5 ⟨rfl, hb5⟩
      rw [valid_there]
      go_wp2
      go_ret
      exact ⟨rfl, H4.out.2.trans (hb5.mono H4.out.1.env.le)⟩
    · have hq : (s.toList == [116, 104, 101, 114, 101]) = false := by rw [beq_eq_false_iff_ne]; exact fun e => hst (bytes_ext2 (e.trans there_list.symm))
      go_wp2_with fail
      refine (HVL.out _).mono ?_
      rintro e w5 ⟨rfl, hb5⟩
      have H5 := Lib.hid (And.intro (H4.out.1.below hb5) (H4.out.2.trans (hb5.mono H4.out.1.env.le)))
      clear hb5
      cases hv : validName s with
      | false =>
        go_wp2_with fail
        have hd : dfound s [(nT, ([120], 1))] = (([], 0), 6) := by unfold dfound; rw [if_pos hv]
        obtain ⟨e1, e2, e3, e4, e5⟩ := errs_bad s [(nT, ([120], 1))] 1 6 (by decide) hd
        obtain ⟨kE, aE, d2, d3, q1, q2, q3, q4, q5, q6, q7, q8⟩ := errs_end s hst
        rw [hv] at q7 q8
        obtain rfl : kE = 6 := q7
        obtain rfl : aE = 6 := q8
        have HE := Lib.hid (And.intro hd (And.intro e1 (And.intro e2 (And.intro e3 (And.intro e4 (And.intro e5 (And.intro q1 (And.intro q2 (And.intro q3 (And.intro q4 (And.intro q5 q6)))))))))))
        clear hd e1 e2 e3 e4 e5 q1 q2 q3 q4 q5 q6 hq
        have hrd := wRead B sb s w5 F4 _ _ H5.out.1 hsz
        rw [HE.out.1] at hrd
        dsimp only at hrd
        refine hrd.mono ?_
        rintro e w6 ⟨A6, cp6, rfl, -, hk6⟩
        have H6 := Lib.hid (And.intro (H5.out.1.below hk6) (H5.out.2.trans (hk6.mono H5.out.1.env.le)))
        clear hk6 hrd
        go_wp2_with fail
        refine (wSync B sb s w6 F4 _ _ H6.out.1 hsz).mono ?_
        rintro e w7 ⟨rfl, h7, hk7⟩
        rw [HE.out.2.1] at h7
        have H7 := Lib.hid (And.intro h7 (H6.out.2.trans (H6.out.1.belowB hk7)))
        clear h7 hk7
        rw [HE.out.1]
        go_wp2_with fail
        refine (wCut B sb s 1 w7 _ _ _ H7.out.1 hsz (by omega) (by omega)).mono ?_
        rintro e w8 ⟨rfl, h8, hk8⟩
        rw [HE.out.2.2.1] at h8
        have H8 := Lib.hid (And.intro h8 (H7.out.2.trans (H7.out.1.belowB hk8)))
        clear h8 hk8
        rw [HE.out.1]
        go_wp2_with fail
        refine (wRemove B sb s w8 _ _ _ H8.out.1 hsz).mono ?_
        rintro e w9 ⟨rfl, h9, hk9⟩
        rw [HE.out.2.2.2.1] at h9
        have H9 := Lib.hid (And.intro h9 (H8.out.2.trans (H8.out.1.belowB hk9)))
        clear h9 hk9
        rw [HE.out.1]
        go_wp2_with fail
        refine (wRename B sb s nT w9 _ _ _ H9.out.1 hsz (by decide)).mono ?_
        rintro e w10 ⟨rfl, h10, hk10⟩
        rw [HE.out.2.2.2.2.1] at h10
        have H10 := Lib.hid (And.intro h10 (H9.out.2.trans (H9.out.1.belowB hk10)))
        clear h10 hk10
        rw [HE.out.2.2.2.2.2.1]
        go_wp2_with fail
        refine (wRename B sb nT s w10 _ _ _ H10.out.1 (by decide) hsz).mono ?_
        rintro e w11 ⟨rfl, h11, hk11⟩
        rw [HE.out.2.2.2.2.2.2.2.1] at h11
        have H11 := Lib.hid (And.intro h11 (H10.out.2.trans (H10.out.1.belowB hk11)))
        clear h11 hk11
        rw [HE.out.2.2.2.2.2.2.1]
        go_wp2_with fail
        refine (wApp B sb s none 0 0 [] w11 _ NoF _ _ H11.out.1 hsz RS.nil ⟨by omega, by omega⟩ (fun _ h => h.elim) (by rw [HE.out.2.2.2.2.2.2.2.2.2.2.1]; omega)).mono ?_
        rintro e w12 ⟨rfl, h12, hk12⟩
        rw [HE.out.2.2.2.2.2.2.2.2.2.1] at h12
        have H12 := Lib.hid (And.intro h12 (H11.out.2.trans (H11.out.1.belowB hk12)))
        clear h12 hk12
        rw [HE.out.2.2.2.2.2.2.2.2.1]
        go_wp2_with fail
        refine (num_q 6 _).mono ?_
        rintro e w14 ⟨rfl, rfl⟩
        go_wp2_with fail
        refine (num_q 6 _).mono ?_
        rintro e w14 ⟨rfl, rfl⟩
        go_wp2_with fail
        refine (num_q 6 _).mono ?_
        rintro e w14 ⟨rfl, rfl⟩
        go_wp2_with fail
        refine (num_q 6 _).mono ?_
        rintro e w14 ⟨rfl, rfl⟩
        go_wp2_with fail
        refine (num_q 6 _).mono ?_
        rintro e w14 ⟨rfl, rfl⟩
        go_wp2_with fail
        refine (num_q 6 _).mono ?_
        rintro e w14 ⟨rfl, rfl⟩
        go_wp2_with fail
        refine (num_q 6 _).mono ?_
        rintro e w14 ⟨rfl, rfl⟩
        go_wp2_with fail
        refine (used_q sb _ _ _ _ 1 H12.out.1.at_ HE.out.2.2.2.2.2.2.2.2.2.2.2).mono ?_
        rintro e w13 ⟨rfl, rfl⟩
        go_wp2
        go_ret
        exact ⟨rfl, H12.out.2⟩
      | true =>
        go_wp2_with fail
        have hd : dfound s [(nT, ([120], 1))] = (([], 0), 8) := by exact dfound_miss s _ hv (by simp [look, Ne.symm hst, hst])
        obtain ⟨e1, e2, e3, e4, e5⟩ := errs_bad s [(nT, ([120], 1))] 1 8 (by decide) hd
        obtain ⟨kE, aE, d2, d3, q1, q2, q3, q4, q5, q6, q7, q8⟩ := errs_end s hst
        rw [hv] at q7 q8
        obtain rfl : kE = 0 := q7
        obtain rfl : aE = 0 := q8
        have HE := Lib.hid (And.intro hd (And.intro e1 (And.intro e2 (And.intro e3 (And.intro e4 (And.intro e5 (And.intro q1 (And.intro q2 (And.intro q3 (And.intro q4 (And.intro q5 q6)))))))))))
        clear hd e1 e2 e3 e4 e5 q1 q2 q3 q4 q5 q6 hq
        have hrd := wRead B sb s w5 F4 _ _ H5.out.1 hsz
        rw [HE.out.1] at hrd
        dsimp only at hrd
        refine hrd.mono ?_
        rintro e w6 ⟨A6, cp6, rfl, -, hk6⟩
        have H6 := Lib.hid (And.intro (H5.out.1.below hk6) (H5.out.2.trans (hk6.mono H5.out.1.env.le)))
        clear hk6 hrd
        go_wp2_with fail
        refine (wSync B sb s w6 F4 _ _ H6.out.1 hsz).mono ?_
        rintro e w7 ⟨rfl, h7, hk7⟩
        rw [HE.out.2.1] at h7
        have H7 := Lib.hid (And.intro h7 (H6.out.2.trans (H6.out.1.belowB hk7)))
        clear h7 hk7
        rw [HE.out.1]
        go_wp2_with fail
        refine (wCut B sb s 1 w7 _ _ _ H7.out.1 hsz (by omega) (by omega)).mono ?_
        rintro e w8 ⟨rfl, h8, hk8⟩
        rw [HE.out.2.2.1] at h8
        have H8 := Lib.hid (And.intro h8 (H7.out.2.trans (H7.out.1.belowB hk8)))
        clear h8 hk8
        rw [HE.out.1]
        go_wp2_with fail
        refine (wRemove B sb s w8 _ _ _ H8.out.1 hsz).mono ?_
        rintro e w9 ⟨rfl, h9, hk9⟩
        rw [HE.out.2.2.2.1] at h9
        have H9 := Lib.hid (And.intro h9 (H8.out.2.trans (H8.out.1.belowB hk9)))
        clear h9 hk9
        rw [HE.out.1]
        go_wp2_with fail
        refine (wRename B sb s nT w9 _ _ _ H9.out.1 hsz (by decide)).mono ?_
        rintro e w10 ⟨rfl, h10, hk10⟩
        rw [HE.out.2.2.2.2.1] at h10
        have H10 := Lib.hid (And.intro h10 (H9.out.2.trans (H9.out.1.belowB hk10)))
        clear h10 hk10
        rw [HE.out.2.2.2.2.2.1]
        go_wp2_with fail
        refine (wRename B sb nT s w10 _ _ _ H10.out.1 (by decide) hsz).mono ?_
        rintro e w11 ⟨rfl, h11, hk11⟩
        rw [HE.out.2.2.2.2.2.2.2.1] at h11
        have H11 := Lib.hid (And.intro h11 (H10.out.2.trans (H10.out.1.belowB hk11)))
        clear h11 hk11
        rw [HE.out.2.2.2.2.2.2.1]
        go_wp2_with fail
        refine (wApp B sb s none 0 0 [] w11 _ NoF _ _ H11.out.1 hsz RS.nil ⟨by omega, by omega⟩ (fun _ h => h.elim) (by rw [HE.out.2.2.2.2.2.2.2.2.2.2.1]; omega)).mono ?_
        rintro e w12 ⟨rfl, h12, hk12⟩
        rw [HE.out.2.2.2.2.2.2.2.2.2.1] at h12
        have H12 := Lib.hid (And.intro h12 (H11.out.2.trans (H11.out.1.belowB hk12)))
        clear h12 hk12
        rw [HE.out.2.2.2.2.2.2.2.2.1]
        go_wp2_with fail
        refine (num_q 8 _).mono ?_
        rintro e w14 ⟨rfl, rfl⟩
        go_wp2_with fail
        refine (num_q 8 _).mono ?_
        rintro e w14 ⟨rfl, rfl⟩
        go_wp2_with fail
        refine (num_q 8 _).mono ?_
        rintro e w14 ⟨rfl, rfl⟩
        go_wp2_with fail
        refine (num_q 8 _).mono ?_
        rintro e w14 ⟨rfl, rfl⟩
        go_wp2_with fail
        refine (num_q 8 _).mono ?_
        rintro e w14 ⟨rfl, rfl⟩
        go_wp2_with fail
        refine (num_q 0 _).mono ?_
        rintro e w14 ⟨rfl, rfl⟩
        go_wp2_with fail
        refine (num_q 0 _).mono ?_
        rintro e w14 ⟨rfl, rfl⟩
        go_wp2_with fail
        refine (used_q sb _ _ _ _ 1 H12.out.1.at_ HE.out.2.2.2.2.2.2.2.2.2.2.2).mono ?_
        rintro e w13 ⟨rfl, rfl⟩
        go_wp2
        go_ret
        exact ⟨rfl, H12.out.2⟩
end Go.Proofs.YtfjndjbpgcggkaaDoor
