/- RaftVotes: the law walked. -/
import Derived.Test.YtikpbhhnllchmaaRF12
import Derived.Test.YtikpbhhnllchmaaRF13
import Derived.Test.YtikpbhhnllchmaaRMs
set_option linter.unusedVariables false
set_option linter.unusedSimpArgs false
namespace Go.Proofs.Ytikpbhhnllchmaa
open Go.RowKit
attribute [local go_sem] Same.cell Same.frozen

/-- An array of two ints. -/
structure Two where
  a : Int
  b : Int
def kTwo : Kind Two where
  size := 2
  pos := by omega
  rep := fun _ _ x cs => cs = [.int .i64 x.a, .int .i64 x.b]
  len := by rintro W F x cs h; obtain rfl := h; rfl
  one := by rintro W F x cs h u hu; obtain rfl := h; simp at hu; rcases hu with rfl | rfl <;> rfl
  mono := fun h _ => h
  keep := fun h _ => h
  bound := fun h => h
theorem at_Two {W : World} {F : Foot} {A : Option Addr} {n : Nat} {xs : List Two} (h : RS kTwo W F A n xs) {i : Nat} {x : Two} (hx : xs[i]? = some x) :
    ∃ (ad : Addr), A = some ad ∧ F ad.block ∧ W.cell? (ad.add (i * 2)) = some (.int .i64 x.a) ∧ W.cell? ⟨(ad.add (i * 2)).block, (ad.add (i * 2)).off + 1, none⟩ = some (.int .i64 x.b) := by
  obtain ⟨ad, c, hA, hF, hr, hc⟩ := h.at_ hx
  obtain rfl := hr
  exact ⟨ad, hA, hF, hc 0 _ rfl, (add_field ad (i * 2) 1 (by omega) ▸ hc 1 _ rfl)⟩

/-- The law's node. -/
def VS (term vote : Int) : RaftS := { newS 1 5 ⟨0, 0, []⟩ with term := term, vote := vote }
def voteReq (frm t : Int) : Message := ⟨3, frm, 1, t, 0, 0, [], 0, false, 0, []⟩
def voteAns (frm t : Int) (ok : Bool) : Message := ⟨4, 1, frm, t, 0, 0, [], 0, ok, 0, []⟩
theorem VS_good (term vote : Int) : (VS term vote).good 0 0 = true := rfl
theorem VS_voteS (t v frm : Int) : (VS t v).voteS (voteReq frm t) = VS t (if (v == 0) || (v == frm) then frm else v) ∧ (VS t v).voteM (voteReq frm t) = voteAns frm t ((v == 0) || (v == frm)) := by
  have hl : (VS t v).lets (voteReq frm t) = ((v == 0) || (v == frm)) := by
    show (((v == 0) || (v == frm)) && (VS t v).good 0 0) = _
    rw [VS_good, Bool.and_true]
  unfold RaftS.voteS RaftS.voteM
  rw [hl]
  refine ⟨?_, rfl⟩
  by_cases h : ((v == 0) || (v == frm)) = true
  · rw [if_pos h, if_pos h]; rfl
  · rw [if_neg h, if_neg h]
theorem VS_late (term v frm t : Int) (h : t < term) : (VS term v).stepV (voteReq frm t) = VS term v ∧ (VS term v).stepVM (voteReq frm t) = voteAns frm term false :=
  ⟨if_pos h, if_pos h⟩
theorem VS_same (v frm t : Int) : (VS t v).stepV (voteReq frm t) = VS t (if (v == 0) || (v == frm) then frm else v) ∧ (VS t v).stepVM (voteReq frm t) = voteAns frm t ((v == 0) || (v == frm)) := by
  have h1 : ¬ (voteReq frm t).Term < (VS t v).term := fun h => by have : t < t := h; omega
  have h2 : (VS t v).upTo (voteReq frm t).Term = VS t v := if_neg (by show ¬ t < t; omega)
  unfold RaftS.stepV RaftS.stepVM
  rw [if_neg h1, if_neg h1, h2]
  exact VS_voteS t v frm
theorem VS_new (term v frm t : Int) (h : term < t) (hf : frm ≠ 0) : (VS term v).stepV (voteReq frm t) = VS t frm ∧ (VS term v).stepVM (voteReq frm t) = voteAns frm t true := by
  have h1 : ¬ (voteReq frm t).Term < (VS term v).term := fun h => by have : t < term := h; omega
  have h2 : (VS term v).upTo (voteReq frm t).Term = VS t 0 := by
    show (VS term v).upTo t = _
    unfold RaftS.upTo RaftS.follow
    rw [if_pos (show (VS term v).term < t from h), if_pos (show (VS term v).term < t from h)]
    rfl
  unfold RaftS.stepV RaftS.stepVM
  rw [if_neg h1, if_neg h1, h2]
  exact VS_voteS t 0 frm
theorem VS_ok (t v : Int) (h0 : 0 ≤ t) (h1 : t ≤ 1000) : (VS t v).Ok :=
  ⟨by show (1 : Int) ≤ 1; omega, by show (1 : Int) ≤ 5; omega, by show (5 : Int) ≤ 7; omega, h0, by show t ≤ _; omega, by show (0 : Int) ≤ 0; omega, by show (0 : Int) ≤ _; omega, ⟨by show (0 : Int) ≤ 0; omega, by show (0 : Int) ≤ _; omega, by show (0 : Nat) ≤ _; omega, fun x hx => by cases hx⟩⟩

set_option maxHeartbeats 2000000 in
set_option maxRecDepth 100000 in
theorem Votes_law (A : Option Addr) (cap : Nat) (xs : List Two) (w : World) (F : Foot) (hr : RS kTwo w F A xs.length xs) (hl : xs.length ≤ cap) (hm : cap ≤ 9223372036854775807) :
    Calls Try.prog 5 #[.slice A xs.length cap] w fun e w' => e = .returned (.bool true) ∧ Below w.heap.size w w' := by
  have HA := Lib.hid (alive_any w)
  have Hr := Lib.hid hr
  clear hr
  obtain ⟨n, hn⟩ : ∃ n, xs.length = n := ⟨_, rfl⟩
  rw [hn] at hl ⊢
  have hn := Lib.hid hn
  go_enter Try.func5, Try.ntmps5
  go_wp2_with fail
  refine HA.out.mono ?_
  rintro e w1 ⟨rfl, hb1⟩
  have Hb1 := Lib.hid hb1
  clear hb1 HA
  by_cases h40 : n ≤ 40
  · go_wp2_with fail
    refine (New_any 1 5 w1 (by decide) (by decide) (by decide)).mono ?_
    rintro e w2 ⟨rb, rfl, hA, hb⟩
    have HL := Lib.hid (show Live w1 w2 rb (VS 0 0) from ⟨hA, hb⟩)
    clear hA hb
    go_wp2_with fail
    go_loopw [5, 6, 7] (fun t v q wr => ∃ (i : Nat) (term vote : Int), t = .int .i64 term ∧ v = .int .i64 vote ∧ q = .int .i64 i ∧ i ≤ n ∧ 0 ≤ term ∧ term ≤ 2 * i ∧ Hid (Live w1 wr rb (VS term vote))) (fun _ _ q _ => 50 - (intOf q).toNat)
    case atStart => exact ⟨0, 0, 0, rfl, rfl, rfl, by omega, by omega, by omega, HL.out⟩
    case round =>
      obtain ⟨i, term, vote, rfl, rfl, rfl, hi, ht0, ht1, hO⟩ := hrel
      by_cases hin : i < n
      · obtain ⟨x, hx⟩ : ∃ x, xs[i]? = some x := ⟨_, List.getElem?_eq_getElem (by rw [hn.out]; exact hin)⟩
        have hrr := (Hr.out.keep (W' := wr) fun k _ hlt => (Hb1.out.trans (hO.out.2.mono Hb1.out.size)).block k hlt)
        obtain ⟨ad, rfl, -, y0, y1⟩ := at_Two hrr hx
        clear hrr
        obtain ⟨b0, hb0⟩ : ∃ b, bits .and .i64 x.a 3 = b := ⟨_, rfl⟩
        obtain ⟨b1, hb1⟩ : ∃ b, bits .and .i64 x.b 3 = b := ⟨_, rfl⟩
        have hp0 := bits_and_le x.a 3 (by omega)
        have hp1 := bits_and_le x.b 3 (by omega)
        rw [show ((3 : Nat) : Int) = 3 from rfl, hb0] at hp0
        rw [show ((3 : Nat) : Int) = 3 from rfl, hb1] at hp1
        obtain ⟨hp0a, hp0b⟩ := hp0
        obtain ⟨hp1a, hp1b⟩ := hp1
        have hwf : wrap64 (2 + b0) = 2 + b0 := by unfold wrap64; omega
        have hwt : wrap64 (wrap64 (term + b1) - 1) = term + b1 - 1 := by unfold wrap64; omega
        obtain ⟨f, hf⟩ : ∃ f, 2 + b0 = f := ⟨_, rfl⟩
        obtain ⟨t, ht⟩ : ∃ t, term + b1 - 1 = t := ⟨_, rfl⟩
        replace hwf := hwf.trans hf
        replace hwt := hwt.trans ht
        have hf2 : 2 ≤ f := by omega
        have hf5 : f ≤ 5 := by omega
        have ht3 : term - 1 ≤ t := by omega
        have ht4 : t ≤ term + 2 := by omega
        have htm : term ≤ 80 := by omega
        clear hf ht hp0a hp0b hp1a hp1b
        by_cases hneg : t < 0
        · have hz : term = 0 := by omega
          have eq0 : ((0 : Int) == term) = true := by rw [hz]; rfl
          replace hz := Lib.hid hz
          by_cases hv0 : vote = 0
          · subst hv0
            have hsv := (show (VS term 0).stepV (voteReq f 0) = VS term f ∧ (VS term 0).stepVM (voteReq f 0) = voteAns f term true from by rw [hz.out]; have h := VS_same 0 f 0; skip; exact h)
            have HS := Step_vote wr rb _ (VS term 0) hO.out.1 (VS_ok term 0 (by omega) (by omega)) (voteReq f 0) none 0 none 0 rfl rfl (by show f ≠ 1; omega) (by show 1 ≤ f; omega) (by show f ≤ 5; omega) (by show 0 ≤ 0; omega) (by show 0 ≤ _; omega)
            rw [hsv.1, hsv.2] at HS
            replace HS := Lib.hid (show Calls Try.prog 14 #[.pointer (some ⟨rb, 0, none⟩), .agg #[.int .i64 3, .int .i64 f, .int .i64 1, .int .i64 0, .int .i64 0, .int .i64 0, .slice none 0 0, .int .i64 0, .bool false, .int .i64 0, .slice none 0 0]] wr (MsgsIs wr rb (New w1 wr) (VS term f) [voteAns f term true]) from HS)
            clear hsv

            go_wp2_with fail
            refine HS.out.mono ?_
            rintro e w3 ⟨v, rfl, hO3, hst⟩
            have hL3 := Lib.hid (hO.out.step hst)
            obtain ⟨g, c, A6, c6, A10, c10, rfl, hc1, hc2, -, hg, -, x0, x1, x2, x3, x4, x5, x6, x7, x8, x9, x10⟩ := hO3.msg1
            replace x0 : w3.cell? ⟨g, 0, none⟩ = some (.int .i64 4) := x0
            replace x2 : w3.cell? ⟨g, 2, none⟩ = some (.int .i64 f) := x2
            replace x3 : w3.cell? ⟨g, 3, none⟩ = some (.int .i64 term) := x3
            replace x8 : w3.cell? ⟨g, 8, none⟩ = some (.bool true) := x8
            clear hst hO3 x1 x4 x5 x6 x7 x9 x10 HS
            have HSt := Lib.hid (show Calls Try.prog 12 #[.pointer (some ⟨rb, 0, none⟩)] w3 (fun e w' => e = .returned (.agg #[.int .i64 term, .int .i64 f, .int .i64 0, .int .i64 0, .int .i64 0, .int .i64 0]) ∧ Below w3.heap.size w3 w') from Status_any w3 rb _ _ hL3.out.1 (VS_ok term f (by omega) (by omega)).log)
            go_wp2_with fail
            refine HSt.out.mono ?_
            rintro e w4 ⟨rfl, hb4⟩
            replace x0 := (hb4.cell (p := ⟨g, 0, none⟩) hg).trans x0
            replace x2 := (hb4.cell (p := ⟨g, 2, none⟩) hg).trans x2
            replace x3 := (hb4.cell (p := ⟨g, 3, none⟩) hg).trans x3
            replace x8 := (hb4.cell (p := ⟨g, 8, none⟩) hg).trans x8
            have hg4 : g < w4.heap.size := by have := hb4.size; omega
            have hL4 := Lib.hid (hL3.out.below hb4)
            clear hb4 HSt
            go_wp2_with fail
            go_roundw
            case rel => exact ⟨i + 1, term, f, rfl, rfl, by go_num, by omega, by omega, by omega, hL4.out.below ((Below.refl _ _).alloc (Nat.le_refl _) _)⟩
            case measure => simp [intOf]; omega
          · have e0 : (vote == 0) = false := by rw [beq_eq_false_iff_ne]; exact hv0
            by_cases hvf : vote = f
            · subst hvf
              have hsv := (show (VS term vote).stepV (voteReq vote 0) = VS term vote ∧ (VS term vote).stepVM (voteReq vote 0) = voteAns vote term true from by rw [hz.out]; have h := VS_same vote vote 0; rw [e0, show (vote == vote) = true from beq_self_eq_true _] at h; exact h)
              have HS := Step_vote wr rb _ (VS term vote) hO.out.1 (VS_ok term vote (by omega) (by omega)) (voteReq vote 0) none 0 none 0 rfl rfl (by show vote ≠ 1; omega) (by show 1 ≤ vote; omega) (by show vote ≤ 5; omega) (by show 0 ≤ 0; omega) (by show 0 ≤ _; omega)
              rw [hsv.1, hsv.2] at HS
              replace HS := Lib.hid (show Calls Try.prog 14 #[.pointer (some ⟨rb, 0, none⟩), .agg #[.int .i64 3, .int .i64 vote, .int .i64 1, .int .i64 0, .int .i64 0, .int .i64 0, .slice none 0 0, .int .i64 0, .bool false, .int .i64 0, .slice none 0 0]] wr (MsgsIs wr rb (New w1 wr) (VS term vote) [voteAns vote term true]) from HS)
              clear hsv

              go_wp2_with fail
              refine HS.out.mono ?_
              rintro e w3 ⟨v, rfl, hO3, hst⟩
              have hL3 := Lib.hid (hO.out.step hst)
              obtain ⟨g, c, A6, c6, A10, c10, rfl, hc1, hc2, -, hg, -, x0, x1, x2, x3, x4, x5, x6, x7, x8, x9, x10⟩ := hO3.msg1
              replace x0 : w3.cell? ⟨g, 0, none⟩ = some (.int .i64 4) := x0
              replace x2 : w3.cell? ⟨g, 2, none⟩ = some (.int .i64 vote) := x2
              replace x3 : w3.cell? ⟨g, 3, none⟩ = some (.int .i64 term) := x3
              replace x8 : w3.cell? ⟨g, 8, none⟩ = some (.bool true) := x8
              clear hst hO3 x1 x4 x5 x6 x7 x9 x10 HS
              have HSt := Lib.hid (show Calls Try.prog 12 #[.pointer (some ⟨rb, 0, none⟩)] w3 (fun e w' => e = .returned (.agg #[.int .i64 term, .int .i64 vote, .int .i64 0, .int .i64 0, .int .i64 0, .int .i64 0]) ∧ Below w3.heap.size w3 w') from Status_any w3 rb _ _ hL3.out.1 (VS_ok term vote (by omega) (by omega)).log)
              go_wp2_with fail
              refine HSt.out.mono ?_
              rintro e w4 ⟨rfl, hb4⟩
              replace x0 := (hb4.cell (p := ⟨g, 0, none⟩) hg).trans x0
              replace x2 := (hb4.cell (p := ⟨g, 2, none⟩) hg).trans x2
              replace x3 := (hb4.cell (p := ⟨g, 3, none⟩) hg).trans x3
              replace x8 := (hb4.cell (p := ⟨g, 8, none⟩) hg).trans x8
              have hg4 : g < w4.heap.size := by have := hb4.size; omega
              have hL4 := Lib.hid (hL3.out.below hb4)
              clear hb4 HSt
              go_wp2_with fail
              go_roundw
              case rel => exact ⟨i + 1, term, vote, rfl, rfl, by go_num, by omega, by omega, by omega, hL4.out.below ((Below.refl _ _).alloc (Nat.le_refl _) _)⟩
              case measure => simp [intOf]; omega
            · have e1 : (vote == f) = false := by rw [beq_eq_false_iff_ne]; exact hvf
              have hsv := (show (VS term vote).stepV (voteReq f 0) = VS term vote ∧ (VS term vote).stepVM (voteReq f 0) = voteAns f term false from by rw [hz.out]; have h := VS_same vote f 0; rw [e0, e1] at h; exact h)
              have HS := Step_vote wr rb _ (VS term vote) hO.out.1 (VS_ok term vote (by omega) (by omega)) (voteReq f 0) none 0 none 0 rfl rfl (by show f ≠ 1; omega) (by show 1 ≤ f; omega) (by show f ≤ 5; omega) (by show 0 ≤ 0; omega) (by show 0 ≤ _; omega)
              rw [hsv.1, hsv.2] at HS
              replace HS := Lib.hid (show Calls Try.prog 14 #[.pointer (some ⟨rb, 0, none⟩), .agg #[.int .i64 3, .int .i64 f, .int .i64 1, .int .i64 0, .int .i64 0, .int .i64 0, .slice none 0 0, .int .i64 0, .bool false, .int .i64 0, .slice none 0 0]] wr (MsgsIs wr rb (New w1 wr) (VS term vote) [voteAns f term false]) from HS)
              clear hsv
              clear hv0 hvf
              go_wp2_with fail
              refine HS.out.mono ?_
              rintro e w3 ⟨v, rfl, hO3, hst⟩
              have hL3 := Lib.hid (hO.out.step hst)
              obtain ⟨g, c, A6, c6, A10, c10, rfl, hc1, hc2, -, hg, -, x0, x1, x2, x3, x4, x5, x6, x7, x8, x9, x10⟩ := hO3.msg1
              replace x0 : w3.cell? ⟨g, 0, none⟩ = some (.int .i64 4) := x0
              replace x2 : w3.cell? ⟨g, 2, none⟩ = some (.int .i64 f) := x2
              replace x3 : w3.cell? ⟨g, 3, none⟩ = some (.int .i64 term) := x3
              replace x8 : w3.cell? ⟨g, 8, none⟩ = some (.bool false) := x8
              clear hst hO3 x1 x4 x5 x6 x7 x9 x10 HS
              have HSt := Lib.hid (show Calls Try.prog 12 #[.pointer (some ⟨rb, 0, none⟩)] w3 (fun e w' => e = .returned (.agg #[.int .i64 term, .int .i64 vote, .int .i64 0, .int .i64 0, .int .i64 0, .int .i64 0]) ∧ Below w3.heap.size w3 w') from Status_any w3 rb _ _ hL3.out.1 (VS_ok term vote (by omega) (by omega)).log)
              go_wp2_with fail
              refine HSt.out.mono ?_
              rintro e w4 ⟨rfl, hb4⟩
              replace x0 := (hb4.cell (p := ⟨g, 0, none⟩) hg).trans x0
              replace x2 := (hb4.cell (p := ⟨g, 2, none⟩) hg).trans x2
              replace x3 := (hb4.cell (p := ⟨g, 3, none⟩) hg).trans x3
              replace x8 := (hb4.cell (p := ⟨g, 8, none⟩) hg).trans x8
              have hg4 : g < w4.heap.size := by have := hb4.size; omega
              have hL4 := Lib.hid (hL3.out.below hb4)
              clear hb4 HSt
              go_wp2_with fail
              go_roundw
              case rel => exact ⟨i + 1, term, vote, rfl, rfl, by go_num, by omega, by omega, by omega, hL4.out.below ((Below.refl _ _).alloc (Nat.le_refl _) _)⟩
              case measure => simp [intOf]; omega
        · have ht5 : 0 ≤ t := by omega
          by_cases hl : t < term
          · have hsv := (VS_late term vote f t hl)
            have HS := Step_vote wr rb _ (VS term vote) hO.out.1 (VS_ok term vote (by omega) (by omega)) (voteReq f t) none 0 none 0 rfl rfl (by show f ≠ 1; omega) (by show 1 ≤ f; omega) (by show f ≤ 5; omega) (by show 0 ≤ t; omega) (by show t ≤ _; omega)
            rw [hsv.1, hsv.2] at HS
            replace HS := Lib.hid (show Calls Try.prog 14 #[.pointer (some ⟨rb, 0, none⟩), .agg #[.int .i64 3, .int .i64 f, .int .i64 1, .int .i64 t, .int .i64 0, .int .i64 0, .slice none 0 0, .int .i64 0, .bool false, .int .i64 0, .slice none 0 0]] wr (MsgsIs wr rb (New w1 wr) (VS term vote) [voteAns f term false]) from HS)
            clear hsv

            go_wp2_with fail
            refine HS.out.mono ?_
            rintro e w3 ⟨v, rfl, hO3, hst⟩
            have hL3 := Lib.hid (hO.out.step hst)
            obtain ⟨g, c, A6, c6, A10, c10, rfl, hc1, hc2, -, hg, -, x0, x1, x2, x3, x4, x5, x6, x7, x8, x9, x10⟩ := hO3.msg1
            replace x0 : w3.cell? ⟨g, 0, none⟩ = some (.int .i64 4) := x0
            replace x2 : w3.cell? ⟨g, 2, none⟩ = some (.int .i64 f) := x2
            replace x3 : w3.cell? ⟨g, 3, none⟩ = some (.int .i64 term) := x3
            replace x8 : w3.cell? ⟨g, 8, none⟩ = some (.bool false) := x8
            clear hst hO3 x1 x4 x5 x6 x7 x9 x10 HS
            have HSt := Lib.hid (show Calls Try.prog 12 #[.pointer (some ⟨rb, 0, none⟩)] w3 (fun e w' => e = .returned (.agg #[.int .i64 term, .int .i64 vote, .int .i64 0, .int .i64 0, .int .i64 0, .int .i64 0]) ∧ Below w3.heap.size w3 w') from Status_any w3 rb _ _ hL3.out.1 (VS_ok term vote (by omega) (by omega)).log)
            go_wp2_with fail
            refine HSt.out.mono ?_
            rintro e w4 ⟨rfl, hb4⟩
            replace x0 := (hb4.cell (p := ⟨g, 0, none⟩) hg).trans x0
            replace x2 := (hb4.cell (p := ⟨g, 2, none⟩) hg).trans x2
            replace x3 := (hb4.cell (p := ⟨g, 3, none⟩) hg).trans x3
            replace x8 := (hb4.cell (p := ⟨g, 8, none⟩) hg).trans x8
            have hg4 : g < w4.heap.size := by have := hb4.size; omega
            have hL4 := Lib.hid (hL3.out.below hb4)
            clear hb4 HSt
            go_wp2_with fail
            go_roundw
            case rel => exact ⟨i + 1, term, vote, rfl, rfl, by go_num, by omega, by omega, by omega, hL4.out.below ((Below.refl _ _).alloc (Nat.le_refl _) _)⟩
            case measure => simp [intOf]; omega
          · by_cases hn : term < t
            · have hsv := (VS_new term vote f t hn (by omega))
              have HS := Step_vote wr rb _ (VS term vote) hO.out.1 (VS_ok term vote (by omega) (by omega)) (voteReq f t) none 0 none 0 rfl rfl (by show f ≠ 1; omega) (by show 1 ≤ f; omega) (by show f ≤ 5; omega) (by show 0 ≤ t; omega) (by show t ≤ _; omega)
              rw [hsv.1, hsv.2] at HS
              replace HS := Lib.hid (show Calls Try.prog 14 #[.pointer (some ⟨rb, 0, none⟩), .agg #[.int .i64 3, .int .i64 f, .int .i64 1, .int .i64 t, .int .i64 0, .int .i64 0, .slice none 0 0, .int .i64 0, .bool false, .int .i64 0, .slice none 0 0]] wr (MsgsIs wr rb (New w1 wr) (VS t f) [voteAns f t true]) from HS)
              clear hsv

              go_wp2_with fail
              refine HS.out.mono ?_
              rintro e w3 ⟨v, rfl, hO3, hst⟩
              have hL3 := Lib.hid (hO.out.step hst)
              obtain ⟨g, c, A6, c6, A10, c10, rfl, hc1, hc2, -, hg, -, x0, x1, x2, x3, x4, x5, x6, x7, x8, x9, x10⟩ := hO3.msg1
              replace x0 : w3.cell? ⟨g, 0, none⟩ = some (.int .i64 4) := x0
              replace x2 : w3.cell? ⟨g, 2, none⟩ = some (.int .i64 f) := x2
              replace x3 : w3.cell? ⟨g, 3, none⟩ = some (.int .i64 t) := x3
              replace x8 : w3.cell? ⟨g, 8, none⟩ = some (.bool true) := x8
              clear hst hO3 x1 x4 x5 x6 x7 x9 x10 HS
              have HSt := Lib.hid (show Calls Try.prog 12 #[.pointer (some ⟨rb, 0, none⟩)] w3 (fun e w' => e = .returned (.agg #[.int .i64 t, .int .i64 f, .int .i64 0, .int .i64 0, .int .i64 0, .int .i64 0]) ∧ Below w3.heap.size w3 w') from Status_any w3 rb _ _ hL3.out.1 (VS_ok t f (by omega) (by omega)).log)
              go_wp2_with fail
              refine HSt.out.mono ?_
              rintro e w4 ⟨rfl, hb4⟩
              replace x0 := (hb4.cell (p := ⟨g, 0, none⟩) hg).trans x0
              replace x2 := (hb4.cell (p := ⟨g, 2, none⟩) hg).trans x2
              replace x3 := (hb4.cell (p := ⟨g, 3, none⟩) hg).trans x3
              replace x8 := (hb4.cell (p := ⟨g, 8, none⟩) hg).trans x8
              have hg4 : g < w4.heap.size := by have := hb4.size; omega
              have hL4 := Lib.hid (hL3.out.below hb4)
              clear hb4 HSt
              go_wp2_with fail
              go_roundw
              case rel => exact ⟨i + 1, t, f, rfl, rfl, by go_num, by omega, by omega, by omega, hL4.out.below ((Below.refl _ _).alloc (Nat.le_refl _) _)⟩
              case measure => simp [intOf]; omega
            · have hteq : term = t := by omega
              subst hteq
              by_cases hv0 : vote = 0
              · subst hv0
                have hsv := (show (VS term 0).stepV (voteReq f term) = VS term f ∧ (VS term 0).stepVM (voteReq f term) = voteAns f term true from by have h := VS_same 0 f term; skip; exact h)
                have HS := Step_vote wr rb _ (VS term 0) hO.out.1 (VS_ok term 0 (by omega) (by omega)) (voteReq f term) none 0 none 0 rfl rfl (by show f ≠ 1; omega) (by show 1 ≤ f; omega) (by show f ≤ 5; omega) (by show 0 ≤ term; omega) (by show term ≤ _; omega)
                rw [hsv.1, hsv.2] at HS
                replace HS := Lib.hid (show Calls Try.prog 14 #[.pointer (some ⟨rb, 0, none⟩), .agg #[.int .i64 3, .int .i64 f, .int .i64 1, .int .i64 term, .int .i64 0, .int .i64 0, .slice none 0 0, .int .i64 0, .bool false, .int .i64 0, .slice none 0 0]] wr (MsgsIs wr rb (New w1 wr) (VS term f) [voteAns f term true]) from HS)
                clear hsv

                go_wp2_with fail
                refine HS.out.mono ?_
                rintro e w3 ⟨v, rfl, hO3, hst⟩
                have hL3 := Lib.hid (hO.out.step hst)
                obtain ⟨g, c, A6, c6, A10, c10, rfl, hc1, hc2, -, hg, -, x0, x1, x2, x3, x4, x5, x6, x7, x8, x9, x10⟩ := hO3.msg1
                replace x0 : w3.cell? ⟨g, 0, none⟩ = some (.int .i64 4) := x0
                replace x2 : w3.cell? ⟨g, 2, none⟩ = some (.int .i64 f) := x2
                replace x3 : w3.cell? ⟨g, 3, none⟩ = some (.int .i64 term) := x3
                replace x8 : w3.cell? ⟨g, 8, none⟩ = some (.bool true) := x8
                clear hst hO3 x1 x4 x5 x6 x7 x9 x10 HS
                have HSt := Lib.hid (show Calls Try.prog 12 #[.pointer (some ⟨rb, 0, none⟩)] w3 (fun e w' => e = .returned (.agg #[.int .i64 term, .int .i64 f, .int .i64 0, .int .i64 0, .int .i64 0, .int .i64 0]) ∧ Below w3.heap.size w3 w') from Status_any w3 rb _ _ hL3.out.1 (VS_ok term f (by omega) (by omega)).log)
                go_wp2_with fail
                refine HSt.out.mono ?_
                rintro e w4 ⟨rfl, hb4⟩
                replace x0 := (hb4.cell (p := ⟨g, 0, none⟩) hg).trans x0
                replace x2 := (hb4.cell (p := ⟨g, 2, none⟩) hg).trans x2
                replace x3 := (hb4.cell (p := ⟨g, 3, none⟩) hg).trans x3
                replace x8 := (hb4.cell (p := ⟨g, 8, none⟩) hg).trans x8
                have hg4 : g < w4.heap.size := by have := hb4.size; omega
                have hL4 := Lib.hid (hL3.out.below hb4)
                clear hb4 HSt
                go_wp2_with fail
                go_roundw
                case rel => exact ⟨i + 1, term, f, rfl, rfl, by go_num, by omega, by omega, by omega, hL4.out.below ((Below.refl _ _).alloc (Nat.le_refl _) _)⟩
                case measure => simp [intOf]; omega
              · have e0 : (vote == 0) = false := by rw [beq_eq_false_iff_ne]; exact hv0
                by_cases hvf : vote = f
                · subst hvf
                  have hsv := (show (VS term vote).stepV (voteReq vote term) = VS term vote ∧ (VS term vote).stepVM (voteReq vote term) = voteAns vote term true from by have h := VS_same vote vote term; rw [e0, show (vote == vote) = true from beq_self_eq_true _] at h; exact h)
                  have HS := Step_vote wr rb _ (VS term vote) hO.out.1 (VS_ok term vote (by omega) (by omega)) (voteReq vote term) none 0 none 0 rfl rfl (by show vote ≠ 1; omega) (by show 1 ≤ vote; omega) (by show vote ≤ 5; omega) (by show 0 ≤ term; omega) (by show term ≤ _; omega)
                  rw [hsv.1, hsv.2] at HS
                  replace HS := Lib.hid (show Calls Try.prog 14 #[.pointer (some ⟨rb, 0, none⟩), .agg #[.int .i64 3, .int .i64 vote, .int .i64 1, .int .i64 term, .int .i64 0, .int .i64 0, .slice none 0 0, .int .i64 0, .bool false, .int .i64 0, .slice none 0 0]] wr (MsgsIs wr rb (New w1 wr) (VS term vote) [voteAns vote term true]) from HS)
                  clear hsv

                  go_wp2_with fail
                  refine HS.out.mono ?_
                  rintro e w3 ⟨v, rfl, hO3, hst⟩
                  have hL3 := Lib.hid (hO.out.step hst)
                  obtain ⟨g, c, A6, c6, A10, c10, rfl, hc1, hc2, -, hg, -, x0, x1, x2, x3, x4, x5, x6, x7, x8, x9, x10⟩ := hO3.msg1
                  replace x0 : w3.cell? ⟨g, 0, none⟩ = some (.int .i64 4) := x0
                  replace x2 : w3.cell? ⟨g, 2, none⟩ = some (.int .i64 vote) := x2
                  replace x3 : w3.cell? ⟨g, 3, none⟩ = some (.int .i64 term) := x3
                  replace x8 : w3.cell? ⟨g, 8, none⟩ = some (.bool true) := x8
                  clear hst hO3 x1 x4 x5 x6 x7 x9 x10 HS
                  have HSt := Lib.hid (show Calls Try.prog 12 #[.pointer (some ⟨rb, 0, none⟩)] w3 (fun e w' => e = .returned (.agg #[.int .i64 term, .int .i64 vote, .int .i64 0, .int .i64 0, .int .i64 0, .int .i64 0]) ∧ Below w3.heap.size w3 w') from Status_any w3 rb _ _ hL3.out.1 (VS_ok term vote (by omega) (by omega)).log)
                  go_wp2_with fail
                  refine HSt.out.mono ?_
                  rintro e w4 ⟨rfl, hb4⟩
                  replace x0 := (hb4.cell (p := ⟨g, 0, none⟩) hg).trans x0
                  replace x2 := (hb4.cell (p := ⟨g, 2, none⟩) hg).trans x2
                  replace x3 := (hb4.cell (p := ⟨g, 3, none⟩) hg).trans x3
                  replace x8 := (hb4.cell (p := ⟨g, 8, none⟩) hg).trans x8
                  have hg4 : g < w4.heap.size := by have := hb4.size; omega
                  have hL4 := Lib.hid (hL3.out.below hb4)
                  clear hb4 HSt
                  go_wp2_with fail
                  go_roundw
                  case rel => exact ⟨i + 1, term, vote, rfl, rfl, by go_num, by omega, by omega, by omega, hL4.out.below ((Below.refl _ _).alloc (Nat.le_refl _) _)⟩
                  case measure => simp [intOf]; omega
                · have e1 : (vote == f) = false := by rw [beq_eq_false_iff_ne]; exact hvf
                  have hsv := (show (VS term vote).stepV (voteReq f term) = VS term vote ∧ (VS term vote).stepVM (voteReq f term) = voteAns f term false from by have h := VS_same vote f term; rw [e0, e1] at h; exact h)
                  have HS := Step_vote wr rb _ (VS term vote) hO.out.1 (VS_ok term vote (by omega) (by omega)) (voteReq f term) none 0 none 0 rfl rfl (by show f ≠ 1; omega) (by show 1 ≤ f; omega) (by show f ≤ 5; omega) (by show 0 ≤ term; omega) (by show term ≤ _; omega)
                  rw [hsv.1, hsv.2] at HS
                  replace HS := Lib.hid (show Calls Try.prog 14 #[.pointer (some ⟨rb, 0, none⟩), .agg #[.int .i64 3, .int .i64 f, .int .i64 1, .int .i64 term, .int .i64 0, .int .i64 0, .slice none 0 0, .int .i64 0, .bool false, .int .i64 0, .slice none 0 0]] wr (MsgsIs wr rb (New w1 wr) (VS term vote) [voteAns f term false]) from HS)
                  clear hsv
                  clear hv0 hvf
                  go_wp2_with fail
                  refine HS.out.mono ?_
                  rintro e w3 ⟨v, rfl, hO3, hst⟩
                  have hL3 := Lib.hid (hO.out.step hst)
                  obtain ⟨g, c, A6, c6, A10, c10, rfl, hc1, hc2, -, hg, -, x0, x1, x2, x3, x4, x5, x6, x7, x8, x9, x10⟩ := hO3.msg1
                  replace x0 : w3.cell? ⟨g, 0, none⟩ = some (.int .i64 4) := x0
                  replace x2 : w3.cell? ⟨g, 2, none⟩ = some (.int .i64 f) := x2
                  replace x3 : w3.cell? ⟨g, 3, none⟩ = some (.int .i64 term) := x3
                  replace x8 : w3.cell? ⟨g, 8, none⟩ = some (.bool false) := x8
                  clear hst hO3 x1 x4 x5 x6 x7 x9 x10 HS
                  have HSt := Lib.hid (show Calls Try.prog 12 #[.pointer (some ⟨rb, 0, none⟩)] w3 (fun e w' => e = .returned (.agg #[.int .i64 term, .int .i64 vote, .int .i64 0, .int .i64 0, .int .i64 0, .int .i64 0]) ∧ Below w3.heap.size w3 w') from Status_any w3 rb _ _ hL3.out.1 (VS_ok term vote (by omega) (by omega)).log)
                  go_wp2_with fail
                  refine HSt.out.mono ?_
                  rintro e w4 ⟨rfl, hb4⟩
                  replace x0 := (hb4.cell (p := ⟨g, 0, none⟩) hg).trans x0
                  replace x2 := (hb4.cell (p := ⟨g, 2, none⟩) hg).trans x2
                  replace x3 := (hb4.cell (p := ⟨g, 3, none⟩) hg).trans x3
                  replace x8 := (hb4.cell (p := ⟨g, 8, none⟩) hg).trans x8
                  have hg4 : g < w4.heap.size := by have := hb4.size; omega
                  have hL4 := Lib.hid (hL3.out.below hb4)
                  clear hb4 HSt
                  go_wp2_with fail
                  go_roundw
                  case rel => exact ⟨i + 1, term, vote, rfl, rfl, by go_num, by omega, by omega, by omega, hL4.out.below ((Below.refl _ _).alloc (Nat.le_refl _) _)⟩
                  case measure => simp [intOf]; omega
      · obtain rfl : i = n := by omega
        go_wp2_with fail
        go_ret
        exact ⟨rfl, Hb1.out.trans (hO.out.2.mono Hb1.out.size)⟩
  · go_wp2_with fail
    go_ret
    exact ⟨rfl, Hb1.out⟩
end Go.Proofs.Ytikpbhhnllchmaa
