/- The document's Valid, walked. -/
import Derived.Test.YtfjndjbpgcggkaaDoorDP2
set_option linter.unusedVariables false
set_option linter.unusedSimpArgs false
namespace Go.Proofs.YtfjndjbpgcggkaaDoor
open Go.RowKit Go.Lib

theorem extract_decode (s : ByteArray) (i : Nat) : decodeL (s.extract i s.size).data.toList = Utf8.decode s i := by
  rw [← decodeL_drop, extract_data]
  congr 1
  rw [size_eq, List.take_of_length_le (by rw [List.length_drop]; omega)]
theorem not_ok {d : Nat × Nat} {pos : Nat} (hb : ¬ (d.1 = 65533 ∧ d.2 = 1)) (h1 : plainC d.1 = false) (h2 : farC d.1 = false) (h3 : markC d.1 = false ∨ pos = 0) : okAt d pos = false := by
  unfold okAt rr
  rw [if_neg hb]
  simp only [h1, h2]
  rcases h3 with h | h <;> simp [h]
theorem is_ok {d : Nat × Nat} {pos : Nat} (hb : ¬ (d.1 = 65533 ∧ d.2 = 1)) (h : plainC d.1 = true ∨ farC d.1 = true ∨ (markC d.1 = true ∧ 0 < pos)) : okAt d pos = true := by
  unfold okAt rr
  rw [if_neg hb]
  rcases h with h | h | ⟨h, h'⟩ <;> simp [h]
  simp [h']

set_option maxHeartbeats 8000000 in
set_option maxRecDepth 100000 in
theorem RefValid_any (s : ByteArray) (w : World) (hs : s.size ≤ 35184372088832) :
    Calls Tryd.prog 116 #[.string s] w fun e w' => e = .returned (.bool (validName s)) ∧ w = w' := by
  obtain ⟨r, hr⟩ : ∃ r, Hid (validName s = r) := ⟨_, rfl⟩
  obtain ⟨q, hq⟩ : ∃ q, Hid (refCount s s.size 0 0 = q) := ⟨_, rfl⟩
  have hrq : Hid (r = refOf q) := by
    show r = _
    rw [← hr.out, ← hq.out, ← refValid_eq]
    rfl
  rw [hr.out]
  go_enter Tryd.func116, Tryd.ntmps116
  go_wp2
  go_loop [2, 3, 4] (fun rv n i => ∃ (pos k fuel : Nat), rv = .bool false ∧ n = .int .i64 k ∧ i = .int .i64 pos ∧ Hid (refCount s fuel pos k = q) ∧ s.size ≤ pos + fuel ∧ k ≤ pos ∧ pos ≤ s.size) (fun _ _ i => s.size - (RowKit.intOf i).toNat)
  case atStart => exact ⟨0, 0, s.size, rfl, rfl, rfl, hq, by omega, by omega, by omega⟩
  case round =>
    obtain ⟨pos, k, fuel, rfl, rfl, rfl, hacc, hfu, hkp, hps⟩ := hrel
    by_cases hp : pos < s.size
    · obtain ⟨f, rfl⟩ : ∃ f, fuel = f + 1 := ⟨fuel - 1, by omega⟩
      have hsz : (s.extract pos s.size).size = s.size - pos := by simp
      have HR := Lib.hid (rune1_any (s.extract pos s.size) w (by omega) (by omega))
      unfold Rune1 at HR
      rw [extract_decode] at HR
      have hw1 := width_pos s pos hp
      have hw2 := decode_le s pos
      have hw3 : pos + (Utf8.decode s pos).2 ≤ s.size := by
        have h1 := decodeL_le (s.data.toList.drop pos) (by rw [Ne, List.drop_eq_nil_iff, ← size_eq]; omega)
        rw [decodeL_drop, List.length_drop, ← size_eq] at h1
        omega
      have hstep : Hid (refCount s (f + 1) pos k = if okAt (Utf8.decode s pos) pos = true then refCount s f (pos + (rr (Utf8.decode s pos)).2.1) (k + 1) else none) := by
        show refCount s (f + 1) pos k = _
        rw [refCount, if_pos hp]
      clear hsz
      obtain ⟨d, hd⟩ : ∃ d, Hid (Utf8.decode s pos = d) := ⟨_, rfl⟩
      rw [hd.out] at HR hw1 hw2 hw3 hstep
      obtain ⟨c, wd⟩ := d
      by_cases hbad : c = 65533 ∧ wd = 1
      · have hno : Hid (r = false) := by
          show r = false
          rw [hrq.out, ← hacc.out, hstep.out, if_neg (by unfold okAt rr; rw [if_pos hbad]; simp)]
          rfl
        have hrr : rr (c, wd) = (0, 1, false) := by unfold rr; rw [if_pos hbad]
        rw [hrr] at HR
        clear hbad hrr hw1 hw2 hw3
        go_wp2_with fail
        refine HR.out.mono ?_
        rintro e w' ⟨rfl, rfl⟩
        go_wp2
        go_ret
        exact ⟨by rw [hno.out]; rfl, rfl⟩
      · have hrr : rr (c, wd) = (c, wd, true) := by unfold rr; rw [if_neg hbad]
        rw [hrr] at HR hstep
        have HN : Hid (okAt (c, wd) pos = false → r = false) := fun h => by
          rw [hrq.out, ← hacc.out, hstep.out, if_neg (by rw [h]; decide)]
          rfl
        have HY : Hid (okAt (c, wd) pos = true → refCount s f (pos + wd) (k + 1) = q) := fun h => by
          have := hstep.out
          rw [if_pos h] at this
          rw [← hacc.out, this]
        have HB := Lib.hid (show ¬ ((c, wd).1 = 65533 ∧ (c, wd).2 = 1) from hbad)
        simp only at hw1 hw3
        clear hbad hrr hstep hacc hw2
        by_cases c1 : 97 ≤ c ∧ c ≤ 122
        ·
          have u1 : 97 ≤ c := by omega
          have u2 : c ≤ 122 := by omega
          clear c1
          have HO := Lib.hid (HY.out (is_ok HB.out (.inl (by show plainC c = true; unfold plainC; simp; omega))))
          have b45 : ((c : Int) == 45) = false := by rw [beq_eq_false_iff_ne]; omega
          have b95 : ((c : Int) == 95) = false := by rw [beq_eq_false_iff_ne]; omega
          have b46 : ((c : Int) == 46) = false := by rw [beq_eq_false_iff_ne]; omega
          have n173 : ((c : Int) != 173) = true := by rw [bne_iff_ne]; omega
          have n65279 : ((c : Int) != 65279) = true := by rw [bne_iff_ne]; omega
          go_wp2_with fail
          refine HR.out.mono ?_
          rintro e w' ⟨rfl, rfl⟩
          go_wp2
          go_round
          case rel => exact ⟨pos + wd, k + 1, f, rfl, by go_num, by go_num, HO, by omega, by omega, by omega⟩
          case measure => simp [RowKit.intOf]; omega
        by_cases c2 : 48 ≤ c ∧ c ≤ 57
        ·
          have u1 : 48 ≤ c := by omega
          have u2 : c ≤ 57 := by omega
          clear c1 c2
          have HO := Lib.hid (HY.out (is_ok HB.out (.inl (by show plainC c = true; unfold plainC; simp; omega))))
          have b45 : ((c : Int) == 45) = false := by rw [beq_eq_false_iff_ne]; omega
          have b95 : ((c : Int) == 95) = false := by rw [beq_eq_false_iff_ne]; omega
          have b46 : ((c : Int) == 46) = false := by rw [beq_eq_false_iff_ne]; omega
          have n173 : ((c : Int) != 173) = true := by rw [bne_iff_ne]; omega
          have n65279 : ((c : Int) != 65279) = true := by rw [bne_iff_ne]; omega
          go_wp2_with fail
          refine HR.out.mono ?_
          rintro e w' ⟨rfl, rfl⟩
          go_wp2
          go_round
          case rel => exact ⟨pos + wd, k + 1, f, rfl, by go_num, by go_num, HO, by omega, by omega, by omega⟩
          case measure => simp [RowKit.intOf]; omega
        by_cases c3 : c = 45
        · have m1 : plainC c = false := by rw [c3]; rfl
          have m2 : farC c = false := by rw [c3]; rfl
          have m3 : markC c = true := by rw [c3]; rfl
          have u1 : 45 ≤ c := by omega
          have u2 : c ≤ 45 := by omega
          have b45 : ((c : Int) == 45) = true := by rw [beq_iff_eq]; omega
          have b95 : ((c : Int) == 95) = false := by rw [beq_eq_false_iff_ne]; omega
          have b46 : ((c : Int) == 46) = false := by rw [beq_eq_false_iff_ne]; omega
          have n173 : ((c : Int) != 173) = true := by rw [bne_iff_ne]; omega
          have n65279 : ((c : Int) != 65279) = true := by rw [bne_iff_ne]; omega
          have M := Lib.hid (And.intro m1 (And.intro m2 m3))
          clear m1 m2 m3 c1 c2 c3
          by_cases hp0 : 0 < pos
          · have HO := Lib.hid (HY.out (is_ok HB.out (.inr (.inr ⟨M.out.2.2, hp0⟩))))
            go_wp2_with fail
            refine HR.out.mono ?_
            rintro e w' ⟨rfl, rfl⟩
            go_wp2
            go_round
            case rel => exact ⟨pos + wd, k + 1, f, rfl, by go_num, by go_num, HO, by omega, by omega, by omega⟩
            case measure => simp [RowKit.intOf]; omega
          · have HO := Lib.hid (HN.out (not_ok HB.out M.out.1 M.out.2.1 (.inr (by omega))))
            have d0 : (!decide (0 < pos)) = true := by simp; omega
            clear hp0
            go_wp2_with fail
            refine HR.out.mono ?_
            rintro e w' ⟨rfl, rfl⟩
            go_wp2
            go_ret
            exact ⟨by rw [HO.out]; rfl, rfl⟩
        by_cases c4 : c = 95
        · have m1 : plainC c = false := by rw [c4]; rfl
          have m2 : farC c = false := by rw [c4]; rfl
          have m3 : markC c = true := by rw [c4]; rfl
          have u1 : 95 ≤ c := by omega
          have u2 : c ≤ 95 := by omega
          have b45 : ((c : Int) == 45) = false := by rw [beq_eq_false_iff_ne]; omega
          have b95 : ((c : Int) == 95) = true := by rw [beq_iff_eq]; omega
          have b46 : ((c : Int) == 46) = false := by rw [beq_eq_false_iff_ne]; omega
          have n173 : ((c : Int) != 173) = true := by rw [bne_iff_ne]; omega
          have n65279 : ((c : Int) != 65279) = true := by rw [bne_iff_ne]; omega
          have x57 : (!decide ((c : Int) ≤ 57)) = true := by simp; omega
          have M := Lib.hid (And.intro m1 (And.intro m2 m3))
          clear m1 m2 m3 c1 c2 c3 c4
          by_cases hp0 : 0 < pos
          · have HO := Lib.hid (HY.out (is_ok HB.out (.inr (.inr ⟨M.out.2.2, hp0⟩))))
            go_wp2_with fail
            refine HR.out.mono ?_
            rintro e w' ⟨rfl, rfl⟩
            go_wp2
            go_round
            case rel => exact ⟨pos + wd, k + 1, f, rfl, by go_num, by go_num, HO, by omega, by omega, by omega⟩
            case measure => simp [RowKit.intOf]; omega
          · have HO := Lib.hid (HN.out (not_ok HB.out M.out.1 M.out.2.1 (.inr (by omega))))
            have d0 : (!decide (0 < pos)) = true := by simp; omega
            clear hp0
            go_wp2_with fail
            refine HR.out.mono ?_
            rintro e w' ⟨rfl, rfl⟩
            go_wp2
            go_ret
            exact ⟨by rw [HO.out]; rfl, rfl⟩
        by_cases c5 : c = 46
        · have m1 : plainC c = false := by rw [c5]; rfl
          have m2 : farC c = false := by rw [c5]; rfl
          have m3 : markC c = true := by rw [c5]; rfl
          have u1 : 46 ≤ c := by omega
          have u2 : c ≤ 46 := by omega
          have b45 : ((c : Int) == 45) = false := by rw [beq_eq_false_iff_ne]; omega
          have b95 : ((c : Int) == 95) = false := by rw [beq_eq_false_iff_ne]; omega
          have b46 : ((c : Int) == 46) = true := by rw [beq_iff_eq]; omega
          have n173 : ((c : Int) != 173) = true := by rw [bne_iff_ne]; omega
          have n65279 : ((c : Int) != 65279) = true := by rw [bne_iff_ne]; omega
          have M := Lib.hid (And.intro m1 (And.intro m2 m3))
          clear m1 m2 m3 c1 c2 c3 c4 c5
          by_cases hp0 : 0 < pos
          · have HO := Lib.hid (HY.out (is_ok HB.out (.inr (.inr ⟨M.out.2.2, hp0⟩))))
            go_wp2_with fail
            refine HR.out.mono ?_
            rintro e w' ⟨rfl, rfl⟩
            go_wp2
            go_round
            case rel => exact ⟨pos + wd, k + 1, f, rfl, by go_num, by go_num, HO, by omega, by omega, by omega⟩
            case measure => simp [RowKit.intOf]; omega
          · have HO := Lib.hid (HN.out (not_ok HB.out M.out.1 M.out.2.1 (.inr (by omega))))
            have d0 : (!decide (0 < pos)) = true := by simp; omega
            clear hp0
            go_wp2_with fail
            refine HR.out.mono ?_
            rintro e w' ⟨rfl, rfl⟩
            go_wp2
            go_ret
            exact ⟨by rw [HO.out]; rfl, rfl⟩
        by_cases c6 : c < 45
        ·
          have u1 : c < 45 := c6
          clear c1 c2 c3 c4 c5 c6
          have HO := Lib.hid (HN.out (not_ok HB.out (by show plainC c = false; unfold plainC; simp; omega) (by show farC c = false; unfold farC; simp; omega) (.inl (by show markC c = false; unfold markC; simp; omega))))
          have b45 : ((c : Int) == 45) = false := by rw [beq_eq_false_iff_ne]; omega
          have b95 : ((c : Int) == 95) = false := by rw [beq_eq_false_iff_ne]; omega
          have b46 : ((c : Int) == 46) = false := by rw [beq_eq_false_iff_ne]; omega
          have n173 : ((c : Int) != 173) = true := by rw [bne_iff_ne]; omega
          have n65279 : ((c : Int) != 65279) = true := by rw [bne_iff_ne]; omega
          go_wp2_with fail
          refine HR.out.mono ?_
          rintro e w' ⟨rfl, rfl⟩
          go_wp2
          go_ret
          exact ⟨by rw [HO.out]; rfl, rfl⟩
        by_cases c7 : c = 47
        ·
          have u1 : c < 48 := by omega
          have u2 : 46 < c := by omega
          clear c1 c2 c3 c4 c5 c6 c7
          have HO := Lib.hid (HN.out (not_ok HB.out (by show plainC c = false; unfold plainC; simp; omega) (by show farC c = false; unfold farC; simp; omega) (.inl (by show markC c = false; unfold markC; simp; omega))))
          have b45 : ((c : Int) == 45) = false := by rw [beq_eq_false_iff_ne]; omega
          have b95 : ((c : Int) == 95) = false := by rw [beq_eq_false_iff_ne]; omega
          have b46 : ((c : Int) == 46) = false := by rw [beq_eq_false_iff_ne]; omega
          have n173 : ((c : Int) != 173) = true := by rw [bne_iff_ne]; omega
          have n65279 : ((c : Int) != 65279) = true := by rw [bne_iff_ne]; omega
          go_wp2_with fail
          refine HR.out.mono ?_
          rintro e w' ⟨rfl, rfl⟩
          go_wp2
          go_ret
          exact ⟨by rw [HO.out]; rfl, rfl⟩
        by_cases c8 : c < 97
        · have u1 : 57 < c := by omega
          have HO := Lib.hid (HN.out (not_ok HB.out (by show plainC c = false; unfold plainC; simp; omega) (by show farC c = false; unfold farC; simp; omega) (.inl (by show markC c = false; unfold markC; simp; omega))))
          have b45 : ((c : Int) == 45) = false := by rw [beq_eq_false_iff_ne]; omega
          have b95 : ((c : Int) == 95) = false := by rw [beq_eq_false_iff_ne]; omega
          have b46 : ((c : Int) == 46) = false := by rw [beq_eq_false_iff_ne]; omega
          have x57 : (!decide ((c : Int) ≤ 57)) = true := by simp; omega
          clear c1 c2 c3 c4 c5 c6 c7
          go_wp2_with fail
          refine HR.out.mono ?_
          rintro e w' ⟨rfl, rfl⟩
          go_wp2
          go_ret
          exact ⟨by rw [HO.out]; rfl, rfl⟩
        by_cases c9 : c < 161
        ·
          have x57 : (!decide ((c : Int) ≤ 57)) = true := by simp; omega
          have x122 : (!decide ((c : Int) ≤ 122)) = true := by simp; omega
          have u1 : 122 < c := by omega
          have u2 : c < 161 := c9
          clear c1 c2 c3 c4 c5 c6 c7 c8 c9
          have HO := Lib.hid (HN.out (not_ok HB.out (by show plainC c = false; unfold plainC; simp; omega) (by show farC c = false; unfold farC; simp; omega) (.inl (by show markC c = false; unfold markC; simp; omega))))
          have b45 : ((c : Int) == 45) = false := by rw [beq_eq_false_iff_ne]; omega
          have b95 : ((c : Int) == 95) = false := by rw [beq_eq_false_iff_ne]; omega
          have b46 : ((c : Int) == 46) = false := by rw [beq_eq_false_iff_ne]; omega
          have n173 : ((c : Int) != 173) = true := by rw [bne_iff_ne]; omega
          have n65279 : ((c : Int) != 65279) = true := by rw [bne_iff_ne]; omega
          go_wp2_with fail
          refine HR.out.mono ?_
          rintro e w' ⟨rfl, rfl⟩
          go_wp2
          go_ret
          exact ⟨by rw [HO.out]; rfl, rfl⟩
        by_cases ca : 65535 < c
        ·
          have x57 : (!decide ((c : Int) ≤ 57)) = true := by simp; omega
          have x122 : (!decide ((c : Int) ≤ 122)) = true := by simp; omega
          have u1 : 65535 < c := ca
          clear c1 c2 c3 c4 c5 c6 c7 c8 c9 ca
          have HO := Lib.hid (HN.out (not_ok HB.out (by show plainC c = false; unfold plainC; simp; omega) (by show farC c = false; unfold farC; simp; omega) (.inl (by show markC c = false; unfold markC; simp; omega))))
          have b45 : ((c : Int) == 45) = false := by rw [beq_eq_false_iff_ne]; omega
          have b95 : ((c : Int) == 95) = false := by rw [beq_eq_false_iff_ne]; omega
          have b46 : ((c : Int) == 46) = false := by rw [beq_eq_false_iff_ne]; omega
          have n173 : ((c : Int) != 173) = true := by rw [bne_iff_ne]; omega
          have n65279 : ((c : Int) != 65279) = true := by rw [bne_iff_ne]; omega
          go_wp2_with fail
          refine HR.out.mono ?_
          rintro e w' ⟨rfl, rfl⟩
          go_wp2
          go_ret
          exact ⟨by rw [HO.out]; rfl, rfl⟩
        by_cases cb : c = 173
        · have m1 : plainC c = false := by rw [cb]; rfl
          have m2 : farC c = false := by rw [cb]; rfl
          have m3 : markC c = false := by rw [cb]; rfl
          have u1 : 173 ≤ c := by omega
          have u2 : c ≤ 173 := by omega
          have b45 : ((c : Int) == 45) = false := by rw [beq_eq_false_iff_ne]; omega
          have b95 : ((c : Int) == 95) = false := by rw [beq_eq_false_iff_ne]; omega
          have b46 : ((c : Int) == 46) = false := by rw [beq_eq_false_iff_ne]; omega
          have n173 : ((c : Int) != 173) = false := by rw [bne_eq_false_iff_eq]; omega
          have n65279 : ((c : Int) != 65279) = true := by rw [bne_iff_ne]; omega
          have x57 : (!decide ((c : Int) ≤ 57)) = true := by simp; omega
          have x122 : (!decide ((c : Int) ≤ 122)) = true := by simp; omega
          have HO := Lib.hid (HN.out (not_ok HB.out m1 m2 (.inl m3)))
          clear m1 m2 m3 c1 c2 c3 c4 c5 c6 c7 c8 c9 ca cb
          go_wp2_with fail
          refine HR.out.mono ?_
          rintro e w' ⟨rfl, rfl⟩
          go_wp2
          go_ret
          exact ⟨by rw [HO.out]; rfl, rfl⟩
        by_cases cd : c = 65279
        · have m1 : plainC c = false := by rw [cd]; rfl
          have m2 : farC c = false := by rw [cd]; rfl
          have m3 : markC c = false := by rw [cd]; rfl
          have u1 : 65279 ≤ c := by omega
          have u2 : c ≤ 65279 := by omega
          have b45 : ((c : Int) == 45) = false := by rw [beq_eq_false_iff_ne]; omega
          have b95 : ((c : Int) == 95) = false := by rw [beq_eq_false_iff_ne]; omega
          have b46 : ((c : Int) == 46) = false := by rw [beq_eq_false_iff_ne]; omega
          have n173 : ((c : Int) != 173) = true := by rw [bne_iff_ne]; omega
          have n65279 : ((c : Int) != 65279) = false := by rw [bne_eq_false_iff_eq]; omega
          have x57 : (!decide ((c : Int) ≤ 57)) = true := by simp; omega
          have x122 : (!decide ((c : Int) ≤ 122)) = true := by simp; omega
          have HO := Lib.hid (HN.out (not_ok HB.out m1 m2 (.inl m3)))
          clear m1 m2 m3 c1 c2 c3 c4 c5 c6 c7 c8 c9 ca cb cd
          go_wp2_with fail
          refine HR.out.mono ?_
          rintro e w' ⟨rfl, rfl⟩
          go_wp2
          go_ret
          exact ⟨by rw [HO.out]; rfl, rfl⟩
        have u1 : 161 ≤ c := by omega
        have u2 : c ≤ 65535 := by omega
        have HO := Lib.hid (HY.out (is_ok HB.out (.inr (.inl (by show farC c = true; unfold farC; simp; omega)))))
        have b45 : ((c : Int) == 45) = false := by rw [beq_eq_false_iff_ne]; omega
        have b95 : ((c : Int) == 95) = false := by rw [beq_eq_false_iff_ne]; omega
        have b46 : ((c : Int) == 46) = false := by rw [beq_eq_false_iff_ne]; omega
        have n173 : ((c : Int) != 173) = true := by rw [bne_iff_ne]; omega
        have n65279 : ((c : Int) != 65279) = true := by rw [bne_iff_ne]; omega
        clear c1 c2 c3 c4 c5 c6 c7 c8 c9 ca cb cd
        go_wp2_with fail
        refine HR.out.mono ?_
        rintro e w' ⟨rfl, rfl⟩
        go_wp2
        go_round
        case rel => exact ⟨pos + wd, k + 1, f, rfl, by go_num, by go_num, HO, by omega, by omega, by omega⟩
        case measure => simp [RowKit.intOf]; omega
    · have hqk : Hid (q = some k) := by
        show q = some k
        rw [← hacc.out]
        cases fuel with
        | zero => rfl
        | succ f => simp [refCount, hp]
      have hres : Hid (r = (decide (0 < k) && decide (k ≤ 40))) := by
        show r = _
        rw [hrq.out, hqk.out]
        rfl
      by_cases h0 : 0 < k
      · by_cases h40 : k ≤ 40
        · have hf : Hid (r = true) := by show r = true; rw [hres.out]; simp [h0, h40]
          have d40 : decide ((k : Int) ≤ 40) = true := by simp; omega
          go_wp2
          go_ret
          exact ⟨by rw [hf.out]; rfl, rfl⟩
        · have hf : Hid (r = false) := by show r = false; rw [hres.out]; simp [h40]
          have h41 : 40 < k := by omega
          have d40 : decide ((k : Int) ≤ 40) = false := by simp; omega
          clear h40
          go_wp2
          go_ret
          exact ⟨by rw [hf.out]; rfl, rfl⟩
      · have hf : Hid (r = false) := by show r = false; rw [hres.out]; simp [h0]
        obtain rfl : k = 0 := by omega
        clear h0
        go_wp2
        go_ret
        exact ⟨by rw [hf.out]; rfl, rfl⟩
end Go.Proofs.YtfjndjbpgcggkaaDoor
