/- The law NetOrders, walked. -/
import Derived.Test.YtngmipppgnlkdaaW
import Derived.Test.YtngmipppgnlkdaaX
set_option linter.unusedVariables false
set_option linter.unusedSimpArgs false
namespace Go.Proofs.Ytngmipppgnlkdaa
open Go.RowKit
attribute [local go_sem] Same.cell

def NetPost (w : World) (e : Ending) (w' : World) : Prop := e = .returned (.bool true) ∧ Below w.heap.size w w'
/-- Messages that are told apart by their terms. -/
def terms (ts : List Nat) : List Message := ts.map fun t : Nat => msgL 0 0 0 (t : Int)
theorem terms_length (ts : List Nat) : (terms ts).length = ts.length := List.length_map ..
theorem terms_fits (ts : List Nat) : ∀ m ∈ terms ts, m.Fits := fun m hm => by
  obtain ⟨t, _, rfl⟩ := List.mem_map.1 hm
  exact msgL_fits _ _ _ _
theorem terms_add (ts : List Nat) (t : Nat) (h : ts.length < 10000) : netAdd (terms ts) [msgL 0 0 0 t] = terms (ts ++ [t]) := by
  show (if (terms ts).length < 10000 then terms ts ++ [msgL 0 0 0 t] else terms ts) = _
  rw [if_pos (by rw [terms_length]; exact h)]
  simp [terms]

theorem terms_erase (ts : List Nat) (k : Nat) : (terms ts).eraseIdx k = terms (ts.eraseIdx k) := by
  simp only [terms, List.eraseIdx_eq_take_drop_succ, List.map_append, List.map_take, List.map_drop]
theorem tBool : ElemT Try.prog 55 4 1 1 := ElemT.mk' (z := .bool false) Try.underlying55 (by kernel_rfl) rfl

/-- Which messages are left, and which were seen. -/
structure Left (N i : Nat) (ts : List Nat) (sb : List Bool) : Prop where
  nodup : ts.Nodup
  lt : ∀ t ∈ ts, t < N
  count : ts.length + i = N ∨ (ts = [] ∧ N ≤ i)
  len : sb.length = N
  seen : ∀ t, t < N → sb[t]? = some (decide (t ∉ ts))
theorem Left.start (N : Nat) : Left N 0 (List.range N) (List.replicate N false) :=
  ⟨List.nodup_range, fun t ht => List.mem_range.1 ht, .inl (by simp), by simp, fun t ht => by
    rw [List.getElem?_replicate, if_pos ht]; simp [ht]⟩
theorem Left.skip {N i : Nat} {sb : List Bool} (h : Left N i [] sb) : Left N (i + 1) [] sb :=
  ⟨h.nodup, h.lt, .inr ⟨rfl, by
    rcases h.count with h | h
    · simp at h; omega
    · have := h.2; omega⟩, h.len, h.seen⟩
theorem Left.take {N i : Nat} {ts : List Nat} {sb : List Bool} (h : Left N i ts sb) {k t : Nat} (hk : ts[k]? = some t) : Left N (i + 1) (ts.eraseIdx k) (sb.set t true) := by
  obtain ⟨hkl, hkt⟩ := List.getElem?_eq_some_iff.1 hk
  have hsplit : ts = ts.take k ++ t :: ts.drop (k + 1) := by
    rw [← hkt, ← List.drop_eq_getElem_cons hkl, List.take_append_drop]
  have her : ts.eraseIdx k = ts.take k ++ ts.drop (k + 1) := List.eraseIdx_eq_take_drop_succ ..
  have hnd := h.nodup
  rw [hsplit, List.nodup_append] at hnd
  obtain ⟨n1, n2, n3⟩ := hnd
  rw [List.nodup_cons] at n2
  have hmem : ∀ x, x ∈ ts ↔ x ∈ ts.eraseIdx k ∨ x = t := by
    intro x
    rw [her]
    conv => lhs; rw [hsplit]
    simp only [List.mem_append, List.mem_cons]
    constructor
    · rintro (h | h | h) <;> simp [h]
    · rintro ((h | h) | h) <;> simp [h]
  have hnot : t ∉ ts.eraseIdx k := by
    rw [her, List.mem_append]
    rintro (h1 | h1)
    · exact n3 t h1 t (by simp) rfl
    · exact n2.1 h1
  refine ⟨?_, fun x hx => h.lt x ((hmem x).2 (.inl hx)), .inl ?_, by rw [List.length_set]; exact h.len, fun x hx => ?_⟩
  · rw [her, List.nodup_append]
    exact ⟨n1, n2.2, fun a ha b hb => n3 a ha b (by simp [hb])⟩
  · rw [List.length_eraseIdx_of_lt hkl]
    rcases h.count with h | ⟨h, _⟩
    · omega
    · subst h; simp at hkl
  · by_cases hxt : t = x
    · subst hxt
      rw [List.getElem?_set_self (by rw [h.len]; exact hx)]
      simp [hnot]
    · rw [List.getElem?_set_ne hxt, h.seen x hx]
      congr 1
      have := hmem x
      have hne : ¬ x = t := fun e => hxt e.symm
      simp [this, hne]

set_option maxRecDepth 100000 in
set_option maxHeartbeats 4000000 in
theorem Orders_law (n : Int) (A : Option Addr) (c : Nat) (ps : List Int) (w : World) (F : Foot) (h : RS (kInt .i64) w F A ps.length ps) (hc : ps.length ≤ c) (hn1 : -9223372036854775808 ≤ n) (hn2 : n ≤ 9223372036854775807) (hl : ps.length ≤ 140737488355328) :
    Calls Try.prog 4 #[.int .i64 n, .slice A ps.length c] w (NetPost w) := by
  go_enter Try.func4, Try.ntmps4
  go_wp2_with fail
  refine (nalive_any _).mono ?_
  rintro e w1 ⟨rfl, hb1⟩
  by_cases hn0 : n < 0
  · go_wp2
    go_ret
    exact ⟨rfl, hb1⟩
  by_cases hn60 : 60 < n
  · go_wp2
    go_ret
    exact ⟨rfl, hb1⟩
  by_cases hl80 : (80 : Int) < ps.length
  · go_wp2
    go_ret
    exact ⟨rfl, hb1⟩
  obtain ⟨N, rfl⟩ : ∃ N : Nat, n = (N : Int) := ⟨n.toNat, by omega⟩
  go_wp2_with fail
  have hb2 : Below w.heap.size w (w1.alloc (.cells #[.slice none 0 0] 50)) := hb1.alloc hb1.size _
  have hL2 := NetAt.new w1
  have hg := hb1.size
  generalize w1.alloc (.cells #[.slice none 0 0] 50) = w2 at hb2 hL2 ⊢
  generalize w1.heap.size = g at hL2 hg ⊢
  clear hb1
  go_loopw [7] (fun q wr => ∃ (k : Nat) (G : Foot), q = .int .i64 k ∧ k ≤ N ∧ NetAt wr g G (terms (List.range k)) ∧ Below w.heap.size w wr ∧ (∀ j, G j → w.heap.size ≤ j)) (fun q _ => N - (intOf q).toNat)
  case atStart => exact ⟨0, _, rfl, Nat.zero_le _, hL2, hb2, fun j hj => by omega⟩
  case round =>
    obtain ⟨k, G, rfl, hk, hL, hB, hG⟩ := hrel
    have hlen : (terms (List.range k)).length = k := by rw [terms_length, List.length_range]
    by_cases hlt : k < N
    · go_wp2_with fail
      have hr3 := lit_msg wr 0 0 0 k
      have hb3 : Below w.heap.size w (wr.alloc (.cells #[.int .i64 0, .int .i64 0, .int .i64 0, .int .i64 k, .int .i64 0, .int .i64 0, .slice none 0 0, .int .i64 0, .bool false, .int .i64 0, .slice none 0 0] 54)) := hB.alloc hB.size _
      have hL3 := hL.below ((Below.refl wr.heap.size wr).alloc (Nat.le_refl _) (.cells #[.int .i64 0, .int .i64 0, .int .i64 0, .int .i64 k, .int .i64 0, .int .i64 0, .slice none 0 0, .int .i64 0, .bool false, .int .i64 0, .slice none 0 0] 54))
      have hs3 : (wr.alloc (.cells #[.int .i64 0, .int .i64 0, .int .i64 0, .int .i64 k, .int .i64 0, .int .i64 0, .slice none 0 0, .int .i64 0, .bool false, .int .i64 0, .slice none 0 0] 54)).heap.size = wr.heap.size + 1 := by simp
      have hsr := hB.size
      generalize wr.alloc (.cells #[.int .i64 0, .int .i64 0, .int .i64 0, .int .i64 k, .int .i64 0, .int .i64 0, .slice none 0 0, .int .i64 0, .bool false, .int .i64 0, .slice none 0 0] 54) = w3 at hr3 hb3 hL3 hs3 ⊢
      refine (Add_any_ g G _ (terms (List.range k)) _ _ [msgL 0 0 0 k] w3 hL3 (by omega) hr3 (by simp) (fun x hx => by simp at hx; subst hx; exact msgL_fits _ _ _ _) (.inl (by simp)) (fun j hj => by omega)).mono ?_
      rintro e w4 ⟨rfl, hL4, hk4⟩
      rw [terms_add _ _ (by rw [List.length_range]; omega), ← List.range_succ] at hL4
      go_wp2
      go_roundw
      case rel =>
        refine ⟨k + 1, _, by go_num, by omega, hL4, hb3.trans (hk4.below_of hb3.size hG), fun j hj => ?_⟩
        rcases hj with hj | hj
        · exact hG j hj
        · omega
      case measure => simp [intOf]; omega
    · obtain rfl : k = N := by omega
      go_wp2_with fail
      obtain ⟨w5, hmk, hO5, hb5⟩ := run_make_S tBool (K := kBool) rfl (x := false) (z := .bool false) (by kernel_rfl) rfl (fun _ _ => rfl) wr k (by omega) (by omega)
      rw [hmk]
      clear hmk
      obtain ⟨G', hLb, hGr⟩ : ∃ G' : Foot, NetAt w5 g G' (terms (List.range k)) ∧ ∀ j, G' j → w.heap.size ≤ j ∧ j ≠ wr.heap.size :=
        ⟨_, hL.bound.below hb5, fun j hj => ⟨hG j hj.1, by have := hj.2; omega⟩⟩
      have hO5 : OwnS kBool 4 w5 (fun j => j = wr.heap.size) (.slice (some ⟨wr.heap.size, 0, none⟩) k k) (List.replicate k false) := hO5.flat flat_bool (fun j hj => by simpa [Value.ownBlock] using hj.symm)
      have hb5' : Below w.heap.size w w5 := hB.trans (hb5.mono hB.size)
      have hwr := hB.size
      generalize wr.heap.size = r at hO5 hGr hwr ⊢
      clear hL hB hG hb5 hlen
      have hstart := Lib.hid (Left.start k)
      go_wp2_with fail
      go_loopw [9] (fun q wr => ∃ (i : Nat) (ts : List Nat) (sb : List Bool), q = .int .i64 i ∧ i ≤ ps.length ∧ NetAt wr g G' (terms ts) ∧ OwnS kBool 4 wr (fun j => j = r) (.slice (some ⟨r, 0, none⟩) k k) sb ∧ Below w.heap.size w wr ∧ Hid (Left k i ts sb)) (fun q _ => ps.length - (intOf q).toNat)
      case atStart => exact ⟨0, _, _, rfl, Nat.zero_le _, hLb, hO5, hb5', hstart⟩
      case round =>
        obtain ⟨i, ts, sb, rfl, hi, hL, hO, hB, hP⟩ := hrel
        by_cases hlt2 : i < ps.length
        · obtain ⟨p, hp⟩ : ∃ p, ps[i]? = some p := ⟨_, List.getElem?_eq_getElem hlt2⟩
          obtain ⟨ad, hA0, hFa, k0⟩ := at_int (h.below hB) hp
          have HA0 := Lib.hid hA0
          rw [hA0]
          clear hA0 hp
          have hcase : (ts = [] ∧ k ≤ i) ∨ (0 < ts.length ∧ i < k) := by
            rcases hP.out.count with h | ⟨h, h'⟩
            · rcases Nat.eq_zero_or_pos ts.length with h0 | h0
              · exact .inl ⟨List.eq_nil_of_length_eq_zero h0, by omega⟩
              · exact .inr ⟨h0, by omega⟩
            · exact .inl ⟨h, h'⟩
          rcases hcase with ⟨rfl, hki⟩ | ⟨h0, hki⟩
          · go_wp2_with fail
            refine (Take_none g G' wr p hL).mono ?_
            rintro e w6 ⟨rfl, hb6⟩
            go_wp2_with fail
            have hb7 : Below wr.heap.size wr (w6.alloc (.cells #[.int .i64 0, .int .i64 0, .int .i64 0, .int .i64 0, .int .i64 0, .int .i64 0, .slice none 0 0, .int .i64 0, .bool false, .int .i64 0, .slice none 0 0] 54)) := hb6.alloc hb6.size _
            generalize w6.alloc (.cells #[.int .i64 0, .int .i64 0, .int .i64 0, .int .i64 0, .int .i64 0, .int .i64 0, .slice none 0 0, .int .i64 0, .bool false, .int .i64 0, .slice none 0 0] 54) = w7 at hb7 ⊢
            go_roundw
            case rel =>
              exact ⟨i + 1, [], sb, by go_num, by omega, hL.below hb7, hO.below hb7, hB.trans (hb7.mono hB.size), hP.out.skip⟩
            case measure => simp [intOf]; omega
          · have hix := netIx_lt p ts.length h0
            obtain ⟨kx, hkx⟩ : ∃ kx, Hid (netIx p ts.length = kx) := ⟨_, rfl⟩
            rw [hkx.out] at hix
            obtain ⟨t, ht⟩ : ∃ t, ts[kx]? = some t := ⟨_, List.getElem?_eq_getElem hix⟩
            have htk : t < k := hP.out.lt t (List.mem_of_getElem? ht)
            have hts := hP.out.seen t htk
            rw [show decide (t ∉ ts) = false by simp [List.mem_of_getElem? ht]] at hts
            have hnext := hP.out.take ht
            have hmt : (terms ts)[netIx p (terms ts).length]? = some (msgL 0 0 0 t) := by
              rw [terms_length, hkx.out]; simp only [terms, List.getElem?_map, ht]; rfl
            have Hnext := Lib.hid hnext
            have hle : (terms ts).length ≤ 1000000000 := by
              rw [terms_length]
              rcases hP.out.count with h | ⟨h, _⟩
              · omega
              · subst h; simp at h0
            clear hnext ht
            go_wp2_with fail
            refine (Take_any g G' (terms ts) wr p hL hle hmt).mono ?_
            rintro e w6 ⟨A6, c6, A10, c10, rfl, hL6, hM6, hK6⟩
            rw [terms_length, hkx.out, terms_erase] at hL6
            simp only [msgL, List.length_nil]
            have hO6 : OwnS kBool 4 w6 (fun j => j = r) (.slice (some ⟨r, 0, none⟩) k k) sb := hO.keeps hK6 (fun j hj hg => (hGr j hg).2 hj)
            have hB6 : Below w.heap.size w w6 := hB.trans (hK6.below_of hB.size fun j hj => (hGr j hj).1)
            clear hmt
            obtain ⟨hrc, hrf, hrs⟩ : w6.cell? ⟨r, t, none⟩ = some (.bool false) ∧ w6.frozen? ⟨r, t, none⟩ = false ∧ r < w6.heap.size := by
              obtain ⟨cc, hrep, hcell, hgl, _⟩ := (hO6.split t).step hts
              have hrep : cc = [.bool false] := hrep
              subst hrep
              have hh := hcell 0 _ rfl
              have e1 : t * kBool.size + 0 = t := by show t * 1 + 0 = t; omega
              rw [e1] at hh
              exact ⟨hh.1, hh.2, hgl⟩
            go_wp2_with fail
            have hO7 := hO6.set1 (i := t) rfl flat_bool htk (x := true) (u := .bool true) (fun _ _ => rfl)
            have hkp : Keeps (fun j => j = r) w6 (w6.setCell ⟨r, t, none⟩ (.bool true)) := (Keeps.refl (fun j => j = r) _).setCell (p := ⟨r, t, none⟩) (fun _ => rfl) _
            have hL7 := hL6.keeps hkp (fun j hj hr => (hGr j hj).2 hr)
            have hB7 : Below w.heap.size w (w6.setCell ⟨r, t, none⟩ (.bool true)) := hB6.setCell (p := ⟨r, t, none⟩) hwr _
            generalize w6.setCell ⟨r, t, none⟩ (.bool true) = w7 at hO7 hL7 hB7 ⊢
            have hb8 : Below w7.heap.size w7 (w7.alloc (.cells #[.int .i64 0, .int .i64 0, .int .i64 0, .int .i64 t, .int .i64 0, .int .i64 0, .slice A6 0 c6, .int .i64 0, .bool false, .int .i64 0, .slice A10 0 c10] 54)) := (Below.refl _ _).alloc (Nat.le_refl _) _
            generalize w7.alloc (.cells #[.int .i64 0, .int .i64 0, .int .i64 0, .int .i64 t, .int .i64 0, .int .i64 0, .slice A6 0 c6, .int .i64 0, .bool false, .int .i64 0, .slice A10 0 c10] 54) = w8 at hb8 ⊢
            go_roundw
            case rel =>
              exact ⟨i + 1, _, _, by go_num, by omega, hL7.below hb8, hO7.below hb8, hB7.trans (hb8.mono hB7.size), Hnext.out⟩
            case measure => simp [intOf]; omega
        · obtain rfl : i = ps.length := by omega
          have hct := hP.out.count
          have hle : (terms ts).length ≤ 1000000000 := by
            rw [terms_length]
            rcases hct with h | ⟨h, _⟩
            · omega
            · subst h; simp
          by_cases hneg : (k : Int) - ps.length < 0
          · go_wp2_with fail
            refine (Len_any g G' (terms ts) wr hL hle).mono ?_
            rintro e w6 ⟨rfl, rfl⟩
            rw [terms_length]
            have e0 : (ts.length : Int) = 0 := by
              rcases hct with h | ⟨h, _⟩
              · omega
              · subst h; rfl
            rw [e0]
            go_wp2_with fail
            go_ret
            exact ⟨rfl, hB⟩
          · go_wp2_with fail
            refine (Len_any g G' (terms ts) wr hL hle).mono ?_
            rintro e w6 ⟨rfl, rfl⟩
            rw [terms_length]
            have e0 : (ts.length : Int) = (k : Int) - ps.length := by
              rcases hct with h | ⟨h, _⟩
              · omega
              · subst h; simp; omega
            rw [e0]
            go_wp2_with fail
            go_ret
            exact ⟨rfl, hB⟩
end Go.Proofs.Ytngmipppgnlkdaa
