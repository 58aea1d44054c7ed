/- The law DiskRenames, walked. -/
import Derived.Test.YtfjndjbpgcggkaaDoorDK13
import Derived.Test.YtfjndjbpgcggkaaDoorDK15
set_option linter.unusedVariables false
set_option linter.unusedSimpArgs false
namespace Go.Proofs.YtfjndjbpgcggkaaDoor
open Go.RowKit

theorem tot_drenC (p q : ByteArray) (c : FObjs) : osum flen (drenC p q c) ≤ osum flen c := by
  unfold drenC
  split
  · exact Nat.le_refl _
  · rename_i h
    have h1 : (dfound p c).2 = 0 := Classical.byContradiction fun e => h (.inr (.inl e))
    have h2 : p ≠ q := fun e => h (.inr (.inr e))
    have := (ren_sum p q _ c (dfound_ok p c h1).1 h2).1
    omega
theorem tot_dremC (s : ByteArray) (c : FObjs) : osum flen (dremC s c) ≤ osum flen c := by
  unfold dremC
  split
  · rename_i h
    have := osum_del (f := flen) s _ c (dfound_ok s c h).1
    omega
  · exact Nat.le_refl _
theorem wRename (B db : Nat) (p q : ByteArray) (w : World) (F : Foot) (room : Int) (c : FObjs) (h : DW B w F db room c) (hs : p.size ≤ 35184372088832) (hs2 : q.size ≤ 35184372088832) :
    Calls Tryd.prog 22 #[.pointer (some ⟨db, 0, none⟩), .string p, .string q] w (Done B w F db room (drenC p q c) (.int .i64 (drenE p q c))) := by
  refine (dRename_any db p q w F room c h.at_ h.ok hs hs2 h.env.now).mono ?_
  rintro e w' ⟨rfl, h1, h2⟩
  exact ⟨rfl, h.grow h2 h1 (h.ok.sub (tot_drenC p q c)), h2⟩
theorem wRemove (B db : Nat) (s : ByteArray) (w : World) (F : Foot) (room : Int) (c : FObjs) (h : DW B w F db room c) (hs : s.size ≤ 35184372088832) :
    Calls Tryd.prog 35 #[.pointer (some ⟨db, 0, none⟩), .string s] w (Done B w F db room (dremC s c) (.int .i64 (dfound s c).2)) := by
  refine (dRemove_any db s w F room c h.at_ h.ok hs h.env.now).mono ?_
  rintro e w' ⟨rfl, h1, h2⟩
  exact ⟨rfl, h.grow h2 h1 (h.ok.sub (tot_dremC s c)), h2⟩
theorem wList (B db : Nat) (w : World) (F : Foot) (room : Int) (c : FObjs) (h : DW B w F db room c) (hn : c.length ≤ 1000000000) :
    Calls Tryd.prog 23 #[.pointer (some ⟨db, 0, none⟩)] w fun e w' => ∃ (A : Option Addr) (cp : Nat), e = .returned (.slice A (dkeys c).length cp) ∧ RS kString w' (New w w') A (dkeys c).length (dkeys c) ∧ Below w.heap.size w w' := by
  refine (dList_any db w F room c h.at_ hn).mono ?_
  rintro e w' ⟨v, rfl, hM⟩
  obtain ⟨A, cp, rfl, -, -, hr⟩ := hM.own.reads
  exact ⟨A, cp, rfl, hr, hM.below⟩

def nOld : ByteArray := ⟨#[111, 108, 100]⟩
def nNew : ByteArray := ⟨#[110, 101, 119]⟩
theorem valid_old : validName nOld = true := by decide +kernel
theorem valid_new : validName nNew = true := by decide +kernel
theorem ne_on : nOld ≠ nNew := by decide
theorem ne_no : nNew ≠ nOld := by decide
theorem dfound_some (s : ByteArray) (c : FObjs) (f : List Int × Nat) (hv : validName s = true) (hl : look s c = some f) : dfound s c = (f, 0) := by
  unfold dfound; rw [hv, hl]; simp
theorem dfound_miss (s : ByteArray) (c : FObjs) (hv : validName s = true) (hl : look s c = none) : dfound s c = (([], 0), 8) := by
  unfold dfound; rw [hv, hl]; simp
theorem app_two (b : List Int) (x : List Int) (n : Nat) (room : Int) (hn : b.length = n) (hr : (x.length : Int) + n ≤ room) :
    dappE nNew n room [(nOld, (x, 0))] = 0 ∧ dappC nNew b room [(nOld, (x, 0))] = [(nOld, (x, 0)), (nNew, (b, n))] := by
  subst hn
  have he : dappE nNew b.length room [(nOld, (x, 0))] = 0 := by unfold dappE; rw [valid_new, if_neg (by decide), if_neg (by simp [osum, flen]; omega)]
  refine ⟨he, ?_⟩
  unfold dappC
  rw [if_pos he, dfound_miss nNew _ valid_new (by simp [look, ne_on, ne_no])]
  simp [oput, look, ne_on, ne_no]
theorem sync_two (x b : List Int) (n : Nat) : dsyncC nNew [(nOld, (x, 0)), (nNew, (b, n))] = [(nOld, (x, 0)), (nNew, (b, 0))] ∧ dfound nNew [(nOld, (x, 0)), (nNew, (b, n))] = ((b, n), 0) := by
  have hf := dfound_some nNew [(nOld, (x, 0)), (nNew, (b, n))] (b, n) valid_new (by simp [look, ne_on, ne_no])
  refine ⟨?_, hf⟩
  unfold dsyncC
  rw [hf]
  simp [oput, look, oset, ne_on, ne_no]
theorem ren_two (x b : List Int) : drenC nNew nOld [(nOld, (x, 0)), (nNew, (b, 0))] = [(nOld, (b, 0))] ∧ drenE nNew nOld [(nOld, (x, 0)), (nNew, (b, 0))] = 0 := by
  have hf := dfound_some nNew [(nOld, (x, 0)), (nNew, (b, 0))] (b, 0) valid_new (by simp [look, ne_on, ne_no])
  constructor
  · unfold drenC
    rw [hf, valid_old, if_neg (by simp [ne_on, ne_no])]
    simp [oput, look, oset, odel, ne_on, ne_no]
  · unfold drenE
    rw [hf, valid_old]
    simp

set_option maxHeartbeats 8000000 in
set_option maxRecDepth 100000 in
theorem DRenames_law (A1 : Option Addr) (c1 : Nat) (a : List Int) (A2 : Option Addr) (c2 : Nat) (b : List Int) (w : World) (hra : RS (kInt .u8) w (Old w) A1 a.length a) (hrb : RS (kInt .u8) w (Old w) A2 b.length b) (hc1 : a.length ≤ c1 ∧ c1 ≤ 9223372036854775807) (hc2 : b.length ≤ c2 ∧ c2 ≤ 9223372036854775807) (hT : TabsBelow w.heap.size w) :
    Calls Tryd.prog 6 #[.slice A1 a.length c1, .slice A2 b.length c2] w fun e w' => e = .returned (.bool true) ∧ Below w.heap.size w w' := by
  have hE0 : Env w.heap.size w := ⟨hT, Nat.le_refl _⟩
  have HS := Lib.hid (dalive_any w hT)
  obtain ⟨B, hB⟩ : ∃ B, Hid (w.heap.size = B) := ⟨_, rfl⟩
  have hOld : ∀ k, Old w k → k < B := fun k hk => by rw [← hB.out]; exact hk
  generalize Old w = G at hra hrb hOld
  rw [hB.out] at hE0 HS ⊢
  clear hT
  have HE0 := Lib.hid hE0
  clear hE0
  by_cases hn1 : a.length ≤ 300
  · by_cases hn2 : b.length ≤ 300
    · obtain ⟨n1, hn1e⟩ : ∃ n, Hid (a.length = n) := ⟨_, rfl⟩
      obtain ⟨n2, hn2e⟩ : ∃ n, Hid (b.length = n) := ⟨_, rfl⟩
      rw [hn1e.out] at hra hn1 hc1 ⊢
      rw [hn2e.out] at hrb hn2 hc2 ⊢
      have l1 : ¬ (300 < n1) := by omega
      have l2 : ¬ (300 < n2) := by omega
      go_enter Tryd.func6, Tryd.ntmps6
      go_wp2_with fail
      refine HS.out.mono ?_
      rintro e w1 ⟨rfl, hb1⟩
      have hE1 := HE0.out.step hb1
      go_wp2_with fail
      refine (wNew B 1000 w1 hE1 (by omega) (by omega)).mono ?_
      rintro e w2 ⟨sb, rfl, h2, hb2⟩
      have hb2 := hb1.trans (hb2.mono hE1.le)
      generalize New w1 w2 = F2 at h2
      have h2 : DW B w2 F2 sb 1000 [] := h2
      clear hb1 hE1
      go_wp2_with fail
      have hra2 : RS (kInt .u8) w2 G A1 n1 a := hra.keep fun k hk _ => hb2.block k (hOld k hk)
      refine (wApp B sb nOld A1 n1 c1 a w2 F2 G _ _ h2 (by decide) hra2 hc1 (fun k h1 h2' => by have := h2.fb k h2'; have := hOld k h1; omega) (by simp [osum]; omega)).mono ?_
      rintro e w3 ⟨rfl, h3, hk3⟩
      have hb3 := hb2.trans (h2.belowB hk3)
      generalize Grow F2 w2 w3 = F3 at h3
      clear hk3 h2 hb2 hra2
      have hp := app_new nOld a n1 1000 valid_old hn1e.out (by omega)
      rw [hp.2] at h3
      rw [hp.1]
      clear hp
      go_wp2_with fail
      refine (wSync B sb nOld w3 F3 _ _ h3 (by decide)).mono ?_
      rintro e w4 ⟨rfl, h4, hk4⟩
      have hb4 := hb3.trans (h3.belowB hk4)
      generalize Grow F3 w3 w4 = F4 at h4
      clear hk4 h3 hb3
      rw [sync_one nOld _ valid_old] at h4
      rw [dfound_one nOld _ valid_old]
      go_wp2_with fail
      have hrb4 : RS (kInt .u8) w4 G A2 n2 b := hrb.keep fun k hk _ => hb4.block k (hOld k hk)
      refine (wApp B sb nNew A2 n2 c2 b w4 F4 G _ _ h4 (by decide) hrb4 hc2 (fun k h1 h2' => by have := h4.fb k h2'; have := hOld k h1; omega) (by simp [osum, flen]; rw [hn1e.out]; omega)).mono ?_
      rintro e w5 ⟨rfl, h5, hk5⟩
      have hb5 := hb4.trans (h4.belowB hk5)
      generalize Grow F4 w4 w5 = F5 at h5
      clear hk5 h4 hb4 hrb4
      have hp := app_two b a n2 1000 hn2e.out (by rw [hn1e.out]; omega)
      rw [hp.2] at h5
      rw [hp.1]
      clear hp
      go_wp2_with fail
      refine (wSync B sb nNew w5 F5 _ _ h5 (by decide)).mono ?_
      rintro e w6 ⟨rfl, h6, hk6⟩
      have hb6 := hb5.trans (h5.belowB hk6)
      generalize Grow F5 w5 w6 = F6 at h6
      clear hk6 h5 hb5
      rw [(sync_two a b n2).1] at h6
      rw [(sync_two a b n2).2]
      go_wp2_with fail
      refine (wRename B sb nNew nOld w6 F6 _ _ h6 (by decide) (by decide)).mono ?_
      rintro e w7 ⟨rfl, h7, hk7⟩
      have hb7 := hb6.trans (h6.belowB hk7)
      generalize Grow F6 w6 w7 = F7 at h7
      clear hk7 h6 hb6
      rw [(ren_two a b).1] at h7
      rw [(ren_two a b).2]
      go_wp2_with fail
      refine (wCrash B sb none 0 0 [] w7 F7 NoF _ _ h7 (by simp) RS.nil ⟨by omega, by omega⟩ (fun _ h => h.elim)).mono ?_
      rintro e w8 ⟨rfl, h8, hk8⟩
      have hb8 := hb7.trans (h7.belowB hk8)
      generalize Grow F7 w7 w8 = F8 at h8
      clear hk8 h7 hb7
      rw [crash_synced] at h8
      go_wp2_with fail
      have hrd := wRead B sb nOld w8 F8 _ _ h8 (by decide)
      rw [dfound_one nOld _ valid_old] at hrd
      dsimp only at hrd
      refine hrd.mono ?_
      rintro e w9 ⟨A9, cp9, rfl, hr9, hk9⟩
      have h9 := h8.below hk9
      have hb9 := hb8.trans (hk9.mono h8.env.le)
      generalize New w8 w9 = G9 at hr9
      rw [hn2e.out] at hr9 ⊢
      clear hrd hk9 h8 hb8
      go_wp2_with fail
      have hrd := wRead B sb nNew w9 F8 _ _ h9 (by decide)
      rw [dfound_miss nNew [(nOld, (b, 0))] valid_new (by simp [look, ne_on, ne_no])] at hrd
      dsimp only at hrd
      refine hrd.mono ?_
      rintro e w10 ⟨A10, cp10, rfl, hr10, hk10⟩
      have h10 := h9.below hk10
      have hb10 := hb9.trans (hk10.mono h9.env.le)
      have hr9b := hr9.below hk10
      clear hrd hk10 h9 hb9 hr10 hr9
      have hrb10 : RS (kInt .u8) w10 G A2 n2 b := hrb.keep fun k hk _ => hb10.block k (hOld k hk)
      obtain ⟨sB, hsB⟩ : ∃ s, Hid (strOfNums b = s) := ⟨_, rfl⟩
      have t1 := hr9b.str (P := Tryd.prog) 26 9 5 cp9 Tryd.underlying26 Tryd.underlying5 Tryd.underlying9
      have t2 := hrb10.str (P := Tryd.prog) 26 9 5 c2 Tryd.underlying26 Tryd.underlying5 Tryd.underlying9
      rw [hsB.out] at t1 t2
      have H10 := Lib.hid (And.intro h10 hb10)
      clear hr9b hrb10 h10 hb10
      go_wp2_with fail
      refine (num_q 0 w10).mono ?_
      rintro e w11 ⟨rfl, rfl⟩
      go_wp2_with fail
      refine (num_q 0 w11).mono ?_
      rintro e w12 ⟨rfl, rfl⟩
      go_wp2_with fail
      refine (num_q 8 w12).mono ?_
      rintro e w13 ⟨rfl, rfl⟩
      go_wp2_with fail
      refine (wList B sb w13 F8 _ _ H10.out.1 (by simp)).mono ?_
      rintro e w14 ⟨A14, cp14, rfl, -, hk14⟩
      rw [dkeys_one]
      have h14 := H10.out.1.below hk14
      have hb14 := H10.out.2.trans (hk14.mono H10.out.1.env.le)
      have H14 := Lib.hid (And.intro h14 hb14)
      clear hk14 h14 hb14
      go_wp2_with fail
      refine (used_q sb w14 F8 _ _ n2 H14.out.1.at_ ((osum_one _ _).trans hn2e.out)).mono ?_
      rintro e w15 ⟨rfl, rfl⟩
      go_wp2
      go_ret
      exact ⟨rfl, H14.out.2⟩
    · have l2 : 300 < b.length := by omega
      have l1 : ¬ (300 < a.length) := by omega
      clear hn2 hn1
      go_enter Tryd.func6, Tryd.ntmps6
      go_wp2_with fail
      refine HS.out.mono ?_
      rintro e w1 ⟨rfl, hb1⟩
      go_wp2
      go_ret
      exact ⟨rfl, hb1⟩
  · have l1 : 300 < a.length := by omega
    clear hn1
    go_enter Tryd.func6, Tryd.ntmps6
    go_wp2_with fail
    refine HS.out.mono ?_
    rintro e w1 ⟨rfl, hb1⟩
    go_wp2
    go_ret
    exact ⟨rfl, hb1⟩
end Go.Proofs.YtfjndjbpgcggkaaDoor
