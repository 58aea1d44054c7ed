/- The document's own disk: Crash. -/
import Derived.Test.YtfjndjbpgcggkaaDoorDR9
import Derived.Test.YtfjndjbpgcggkaaDoorDRx
import Derived.Test.YtfjndjbpgcggkaaDoorDK9
set_option linter.unusedVariables false
set_option linter.unusedSimpArgs false
namespace Go.Proofs.YtfjndjbpgcggkaaDoor
open Go.RowKit
attribute [local go_sem] Same.cell Same.frozen

/-- What is left of a file at a crash. -/
def rcut1 (f : RFile) (k : Nat) : RFile := ⟨f.name, f.b.take (f.b.length - f.loose.toNat + k), 0⟩
def rcrash : List RFile → List Int → List RFile
  | [], _ => []
  | f :: l, ks => if f.loose = 0 then f :: rcrash l ks else rcut1 f (crashK ks f.loose.toNat) :: rcrash l ks.tail
theorem rcrash_cons (f : RFile) (l : List RFile) (ks : List Int) : rcrash (f :: l) ks = if f.loose = 0 then f :: rcrash l ks else rcut1 f (crashK ks f.loose.toNat) :: rcrash l ks.tail := rfl
theorem rcrash_len : ∀ (l : List RFile) (ks : List Int), (rcrash l ks).length = l.length
  | [], _ => rfl
  | f :: l, ks => by
    unfold rcrash
    split <;> simp [rcrash_len l]

/-- What a round finds. -/
structure RCr (w wr : World) (F G : Foot) (rb : Nat) (room : Int) (A : Option Addr) (c : Nat) (l : List RFile) (ks : List Int) (An : Option Addr) (n : Nat) (i a : Nat) (li : List RFile) : Prop where
  at_ : RefAt wr (Grow F w wr) rb room li A c
  kps : Keeps F w wr
  keep : RS (kInt .i64) wr (fun k => (G k ∧ k < w.heap.size) ∧ ¬ F k) An n ks
  len : li.length = l.length
  ia : a ≤ i
  lo : ∀ x ∈ li, 0 ≤ x.loose ∧ x.loose ≤ x.b.length ∧ x.b.length ≤ 1000000000000
  go : li.take i ++ rcrash (li.drop i) (ks.drop a) = rcrash l ks

section
variable {w wr wr' : World} {F G : Foot} {rb : Nat} {room : Int} {A : Option Addr} {c : Nat} {l li : List RFile} {ks : List Int} {An : Option Addr} {n i a : Nat}
theorem RCr.pass (h : RCr w wr F G rb room A c l ks An n i a li) (hb : Below wr.heap.size wr wr') {x : RFile} (hx : li[i]? = some x) (h0 : x.loose = 0) : RCr w wr' F G rb room A c l ks An n (i + 1) a li := by
  have hs := hb.size
  have hs0 := h.kps.size
  refine ⟨(h.at_.below hb).mono fun k hk => hk.imp id fun hk => ⟨hk.1, by omega⟩, h.kps.then_below hb, h.keep.below hb, h.len, by have := h.ia; omega, h.lo, ?_⟩
  obtain ⟨h1, h2⟩ := List.getElem?_eq_some_iff.1 hx
  rw [← h.go, List.drop_eq_getElem_cons h1, h2, List.take_add_one, hx, rcrash_cons, if_pos h0]
  simp
theorem RCr.cut (h : RCr w wr F G rb room A c l ks An n i a li) {x : RFile} (hx : li[i]? = some x) (h0 : ¬ x.loose = 0) {kk m : Nat} (hkk : crashK (ks.drop a) x.loose.toNat = kk) (hm : x.b.length - x.loose.toNat + kk = m)
    (hat : RefAt wr' (Grow F w wr') rb room (li.set i ⟨x.name, x.b.take m, 0⟩) A c) (hk : Keeps F w wr') : RCr w wr' F G rb room A c l ks An n (i + 1) (a + 1) (li.set i ⟨x.name, x.b.take m, 0⟩) := by
  refine ⟨hat, hk, ?_, by rw [List.length_set]; exact h.len, by have := h.ia; omega, fun y hy => ?_, ?_⟩
  · exact h.keep.keep fun j hj _ => (hk.block j hj.1.2 hj.2).trans (h.kps.block j hj.1.2 hj.2).symm
  · rcases List.mem_or_eq_of_mem_set hy with hy | rfl
    · exact h.lo y hy
    · have := h.lo x (List.mem_of_getElem? hx)
      refine ⟨by show (0 : Int) ≤ 0; omega, by show (0 : Int) ≤ _; omega, ?_⟩
      show (x.b.take m).length ≤ _
      rw [List.length_take]; omega
  · obtain ⟨h1, h2⟩ := List.getElem?_eq_some_iff.1 hx
    rw [← h.go, List.drop_eq_getElem_cons h1, h2, rcrash_cons, if_neg h0, hkk, List.tail_drop]
    have e1 : (li.set i ⟨x.name, x.b.take m, 0⟩).take (i + 1) = li.take i ++ [⟨x.name, x.b.take m, 0⟩] := by
      rw [List.take_add_one, List.getElem?_set_self h1, List.take_set_of_le (Nat.le_refl _)]; rfl
    have e2 : (li.set i ⟨x.name, x.b.take m, 0⟩).drop (i + 1) = li.drop (i + 1) := by
      rw [List.drop_set_of_lt (by omega)]
    rw [e1, e2]
    unfold rcut1
    rw [hm]
    simp

theorem set3_cells (cur : Array Value) (o : Nat) (a b d : Value) (h : o + 2 < cur.size) : ((((((cur.setIfInBounds o a).setIfInBounds (o + 1) b).setIfInBounds (o + 2) d).toList.drop o).take 3)) = [a, b, d] := by
  apply List.ext_getElem?
  intro q
  rw [List.getElem?_take, List.getElem?_drop, Array.getElem?_toList]
  match q with
  | 0 => simp [Array.getElem?_setIfInBounds]; omega
  | 1 => simp [Array.getElem?_setIfInBounds]; omega
  | 2 => simp [Array.getElem?_setIfInBounds]; omega
  | q + 3 => rw [if_neg (by omega)]; simp
theorem RCr.put {w5 : World} {ad : Addr} {g o M c8 m kk : Nat} {A8 : Option Addr} {cur : Array Value} {x : RFile} (hC : RCr w wr F G rb room (some ad) c l ks An n i a li) (hin : ∀ k, F k → k < w.heap.size) (hb5 : Below wr.heap.size wr w5) (hx : li[i]? = some x) (h0 : ¬ x.loose = 0) (hkk : crashK (ks.drop a) x.loose.toNat = kk) (hm : x.b.length - x.loose.toNat + kk = m)
    (hr5 : RS (kInt .u8) w5 (fun j => wr.heap.size < j) A8 M (x.b.take m)) (hcur : w5.heap[g]? = some (.cells cur 191 (0, 0))) (hcsz : o + 2 < cur.size) (hg : ad = ⟨g, 0, none⟩) (ho : i * 3 = o) (l8 : M ≤ c8) (m8 : c8 ≤ 9223372036854775807) :
    RCr w ((((w5.setCell ⟨g, o, none⟩ (.string x.name)).setCell ⟨g, o + 1, none⟩ (.slice A8 M c8)).setCell ⟨g, o + 2, none⟩ (.int .i64 0)).drew) F G rb room (some ad) c l ks An n (i + 1) (a + 1) (li.set i ⟨x.name, x.b.take m, 0⟩) := by
  subst hg
  have hil := (List.getElem?_eq_some_iff.1 hx).1
  have hMl : (x.b.take m).length = M := hr5.length
  have hs5 := hb5.size
  have hs0 := hC.kps.size
  have hrw := hC.at_.below hb5
  obtain ⟨hFg, hgr⟩ := hrw.own.cur.choose_spec.2.2.2.2
  have hgl : g < wr.heap.size := by
    rcases hFg with h | h
    · have := hin g h; omega
    · exact h.2
  have hgF : g < w.heap.size → F g := fun hlt => by
    rcases hFg with h | h
    · exact h
    · omega
  have hrl : rb < wr.heap.size := (Array.getElem?_eq_some_iff.1 hC.at_.cells).1
  have hW' := heap_set3 w5 g o cur 191 (.string x.name) (.slice A8 M c8) (.int .i64 0) hcur
  have hot : ∀ k, k ≠ g → (((w5.setCell ⟨g, o, none⟩ (.string x.name)).setCell ⟨g, o + 1, none⟩ (.slice A8 M c8)).setCell ⟨g, o + 2, none⟩ (.int .i64 0)).heap[k]? = w5.heap[k]? := fun k hk =>
    ((Below.heap_setCell _ ⟨g, o + 2, none⟩ _ k hk).trans (Below.heap_setCell _ ⟨g, o + 1, none⟩ _ k hk)).trans (Below.heap_setCell _ ⟨g, o, none⟩ _ k hk)
  have hsz : (((w5.setCell ⟨g, o, none⟩ (.string x.name)).setCell ⟨g, o + 1, none⟩ (.slice A8 M c8)).setCell ⟨g, o + 2, none⟩ (.int .i64 0)).heap.size = w5.heap.size := by simp
  have hkp : Keeps F w (((w5.setCell ⟨g, o, none⟩ (.string x.name)).setCell ⟨g, o + 1, none⟩ (.slice A8 M c8)).setCell ⟨g, o + 2, none⟩ (.int .i64 0)) :=
    (((hC.kps.then_below hb5).setCell (p := ⟨g, o, none⟩) hgF _).setCell (p := ⟨g, o + 1, none⟩) hgF _).setCell (p := ⟨g, o + 2, none⟩) hgF _
  generalize ((w5.setCell ⟨g, o, none⟩ (.string x.name)).setCell ⟨g, o + 1, none⟩ (.slice A8 M c8)).setCell ⟨g, o + 2, none⟩ (.int .i64 0) = w6 at hW' hot hsz hkp ⊢
  refine hC.cut hx h0 hkk hm ?_ hkp.drew
  have hF6 : ∀ k, Grow F w wr k → Grow F w w6 k := fun k hk => hk.imp id fun hk => ⟨hk.1, by omega⟩
  refine ⟨((hot rb (fun e => hgr e.symm)).trans hrw.cells).trans (by rw [List.length_set]), hF6 _ hrw.fs, ?_⟩
  rw [List.length_set]
  have hown := hrw.own.mono (G := fun k => Grow F w w6.drew k ∧ k ≠ rb) fun k hk => ⟨hF6 k hk.1, hk.2⟩
  refine OwnS.setRow (W' := w6.drew) hown hcur hW' hil (by simp) (fun j hj => ?_) (fun k _ hk _ => hot k hk) ?_
  · have h3 : kRFile.size = 3 := rfl
    rw [h3] at hj
    rw [Array.getElem?_setIfInBounds, Array.getElem?_setIfInBounds, Array.getElem?_setIfInBounds, if_neg (by omega), if_neg (by omega), if_neg (by omega)]
  · rw [show i * kRFile.size = o from ho, show kRFile.size = 3 from rfl, set3_cells cur o _ _ _ hcsz]
    refine ⟨A8, c8, by rw [hMl], by show (x.b.take m).length ≤ c8; rw [hMl]; exact l8, m8, ?_⟩
    show RS (kInt .u8) w6.drew _ A8 (x.b.take m).length (x.b.take m)
    rw [hMl]
    refine (hr5.bound.keep (W' := w6.drew) fun k hk _ => hot k (fun e => by have := hk.1; omega)).mono fun k hk => ⟨⟨.inr ⟨by have := hk.1; omega, ?_⟩, ?_⟩, ?_⟩
    · show k < w6.heap.size
      have := hk.2; omega
    · have := hk.1; omega
    · have := hk.1; omega
end

set_option maxHeartbeats 8000000 in
set_option maxRecDepth 100000 in
theorem rcrash_any (rb : Nat) (An : Option Addr) (n cp : Nat) (ks : List Int) (w : World) (F G : Foot) (room : Int) (l : List RFile) (A : Option Addr) (c : Nat) (h : RefAt w F rb room l A c) (hin : ∀ k, F k → k < w.heap.size) (hn : l.length ≤ 1000000000)
    (hlo : ∀ x ∈ l, 0 ≤ x.loose ∧ x.loose ≤ x.b.length ∧ x.b.length ≤ 1000000000000) (hG : Apart G F) (hr : RS (kInt .i64) w G An n ks) (hkn : n ≤ 1000000000000) :
    Calls Tryd.prog 90 #[.pointer (some ⟨rb, 0, none⟩), .slice An n cp] w fun e w' => e = .returned (.tuple #[]) ∧ (∃ A' c', RefAt w' (Grow F w w') rb room (rcrash l ks) A' c') ∧ Keeps F w w' := by
  have h0 : Hid (RCr w w F G rb room A c l ks An n 0 0 l) := ⟨h.mono fun k hk => .inl hk, Keeps.refl _ _, hr.bound.mono fun k hk => ⟨hk, hG k hk.1⟩, rfl, Nat.le_refl _, hlo, by simp⟩
  have hrlt : rb < w.heap.size := (Array.getElem?_eq_some_iff.1 h.cells).1
  clear h hr hlo
  go_enter Tryd.func90, Tryd.ntmps90
  go_wp2
  go_loopw [4, 5] (fun qa qi wr => ∃ (i a : Nat) (li : List RFile), i ≤ l.length ∧ qa = .int .i64 a ∧ qi = .int .i64 i ∧ Hid (RCr w wr F G rb room A c l ks An n i a li)) (fun _ q _ => l.length - (intOf q).toNat)
  case atStart => exact ⟨0, 0, l, Nat.zero_le _, rfl, rfl, h0⟩
  case round =>
    obtain ⟨i, a, li, hi, rfl, rfl, hC⟩ := hrel
    have hcl := hC.out.at_.cells
    have c1 : wr.cell? ⟨rb, 1, none⟩ = some (.slice A li.length c) := cell_of_row wr rb 1 _ _ _ hcl
    rw [hC.out.len] at c1
    have hrr : rb < wr.heap.size := by have := hC.out.kps.size; omega
    by_cases hlt : i < l.length
    · obtain ⟨x, hx⟩ : ∃ x, li[i]? = some x := ⟨_, List.getElem?_eq_getElem (by rw [hC.out.len]; exact hlt)⟩
      obtain ⟨A', c', hvv, hc, hm, hrd⟩ := hC.out.at_.own.reads
      obtain ⟨rfl, rfl⟩ : A = A' ∧ c = c' := by injection hvv with h1 _ h2; exact ⟨h1, h2⟩
      have hrd0 := hrd
      obtain ⟨ad, A2, cp2, hA0, hFa, k0, k1, k2, l2, m2, r2⟩ := at_RFile hrd hx
      subst hA0
      have hia := hC.out.ia
      obtain ⟨hx1, hx2, hx3⟩ := hC.out.lo x (List.mem_of_getElem? hx)
      by_cases hz : x.loose = 0
      · have ez : (x.loose == 0) = true := by rw [beq_iff_eq]; exact hz
        have HX := Lib.hid (And.intro hx hz)
        clear hx hz hvv hrd hrd0 r2 hcl
        go_wp2
        go_roundw
        case rel =>
          exact ⟨i + 1, a, li, by omega, rfl, by go_num, hC.out.pass ((Below.refl _ _).alloc (Nat.le_refl _) _) HX.out.1 HX.out.2⟩
        case measure => simp [intOf]; omega
      · have ez : (x.loose == 0) = false := by rw [beq_eq_false_iff_ne]; exact hz
        obtain ⟨lo, hlo0⟩ := Int.eq_ofNat_of_zero_le hx1
        have hlo : Hid (x.loose.toNat = lo) := by show x.loose.toNat = lo; omega
        rw [hlo0] at k2 ez hx2
        have hlp : 0 < lo := by omega
        obtain ⟨L, hL⟩ : ∃ L, Hid (x.b.length = L) := ⟨_, rfl⟩
        rw [hL.out] at k1 l2 r2 hx2 hx3
        by_cases han : a < n
        · obtain ⟨k0v, hk0⟩ : ∃ k0v, ks[a]? = some k0v := ⟨_, List.getElem?_eq_getElem (by rw [hC.out.keep.length]; exact han)⟩
          obtain ⟨adk, hAk, hFk, hck0⟩ := at_int hC.out.keep hk0
          subst hAk
          have hkb : adk.block < wr.heap.size := by have := hFk.1.2; have := hC.out.kps.size; omega
          have hck1 : (wr.alloc (.cells #[.string x.name, .slice A2 L cp2, .int .i64 lo] 191)).cell? (adk.add a) = some (.int .i64 k0v) := (((Below.refl wr.heap.size wr).alloc (Nat.le_refl _) _).cell (p := adk.add a) (by rw [block_add]; exact hkb)).trans hck0
          by_cases hneg : k0v ≤ 0
          · have hck : Hid (crashK (ks.drop a) lo = 0) := by
              obtain ⟨h1, h2⟩ := List.getElem?_eq_some_iff.1 hk0
              rw [List.drop_eq_getElem_cons h1, h2]
              show clampN _ lo = _
              unfold clampN
              omega
            clear hk0
            obtain ⟨m, hmm⟩ : ∃ m : Nat, Hid (L - lo + 0 = m) := ⟨_, rfl⟩
            have hml : m ≤ L := by have := hmm.out; omega
            have hsl : ∀ W, (Instr.slice 26 (.slice A2 L cp2) none (some (.int .i64 ((L : Int) - lo))) none).run Tryd.prog W = .ok (.slice A2 m cp2) W := by
              have := cut_hi tBytes .i64 A2 L cp2 m (by omega)
              rwa [show ((m : Nat) : Int) = (L : Int) - lo by have := hmm.out; omega] at this
            have hx5 : crashK (ks.drop a) x.loose.toNat = 0 := by rw [hlo.out]; exact hck.out
            have HX := Lib.hid (And.intro hx (And.intro hx5 r2))
            clear hck hx hx5 r2 hrd hrd0 hvv hcl hz
            go_wp2_with (first
              | (at_builtin
                 refine wpList_append_S rfl tBytes _ (.tmp 60) rfl (K := kInt .u8) (F := NoF) (G := fun j => Grow F w wr j ∧ j ≠ rb) (v := .slice none 0 0) (xs := []) (ys := x.b.take m) rfl rfl OwnS.nil ?_ (fun k hk => by simp [Value.ownBlock] at hk) ?_ ?_ ?_))
            · exact (HX.out.2.2.take_ m hml).alloc _
            · (try simp); omega
            · (try simp); omega
            intro v4 w4 hA
            have hql : wr.heap.size < (wr.alloc (.cells #[.string x.name, .slice A2 L cp2, .int .i64 lo] 191)).heap.size := by simp
            have hls : ∀ j, v4.ownBlock = some j → wr.heap.size < j := fun j hj => by
              rcases hA.lies j hj with h | h
              · simp [Value.ownBlock] at h
              · have := h.1; omega
            have hO4 : OwnS (kInt .u8) 5 w4 (fun j => wr.heap.size < j) v4 (x.b.take m) := hA.own.flat (flat_int _) hls
            have hb34 := ((Below.refl _ _).grown hA.grown (Nat.le_refl _) (by simp [Value.ownBlock]))
            have hb4 : Below wr.heap.size wr w4 := ((Below.refl _ _).alloc (Nat.le_refl _) (.cells #[.string x.name, .slice A2 L cp2, .int .i64 lo] 191)).trans (hb34.mono (by simp))
            have hq4 := (hA.grown.block wr.heap.size hql (by simp [Value.ownBlock])).trans (heap_alloc_new wr (.cells #[.string x.name, .slice A2 L cp2, .int .i64 lo] 191))
            obtain ⟨A8, c8, rfl, hl8, hm8, hr8⟩ := hO4.reads
            obtain ⟨M, hM⟩ : ∃ M, Hid ((x.b.take m).length = M) := ⟨_, rfl⟩
            rw [hM.out] at hl8 hr8 ⊢
            have hs24 : wr.heap.size < w4.heap.size := Nat.lt_of_lt_of_le hql hb34.size
            have z0 : w4.cell? ⟨wr.heap.size, 0, none⟩ = some (.string x.name) := cell_of_row w4 _ 0 _ _ _ hq4
            have z1 : w4.cell? ⟨wr.heap.size, 1, none⟩ = some (.slice A2 L cp2) := cell_of_row w4 _ 1 _ _ _ hq4
            have z2 : w4.cell? ⟨wr.heap.size, 2, none⟩ = some (.int .i64 lo) := cell_of_row w4 _ 2 _ _ _ hq4
            have f1 : w4.frozen? ⟨wr.heap.size, 1, none⟩ = false := frozen_of_row w4 _ 1 _ _ hq4
            have f2 : w4.frozen? ⟨wr.heap.size, 2, none⟩ = false := frozen_of_row w4 _ 2 _ _ hq4
            have H4 := Lib.hid (And.intro hb4 (And.intro hq4 hr8))
            clear hA hO4 hb34 hb4 hq4 hql hls hr8 k0 k1 k2
            go_wp2_with fail
            have hb5 : Below wr.heap.size wr ((w4.setCell ⟨wr.heap.size, 1, none⟩ (.slice A8 M c8)).setCell ⟨wr.heap.size, 2, none⟩ (.int .i64 0)) := (H4.out.1.setCell (p := ⟨wr.heap.size, 1, none⟩) (Nat.le_refl _) _).setCell (p := ⟨wr.heap.size, 2, none⟩) (Nat.le_refl _) _
            have hr5 : RS (kInt .u8) ((w4.setCell ⟨wr.heap.size, 1, none⟩ (.slice A8 M c8)).setCell ⟨wr.heap.size, 2, none⟩ (.int .i64 0)) (fun j => wr.heap.size < j) A8 M (x.b.take m) := (H4.out.2.2.far (p := ⟨wr.heap.size, 1, none⟩) (Nat.lt_irrefl _) _).far (p := ⟨wr.heap.size, 2, none⟩) (Nat.lt_irrefl _) _
            have hq5 : ((w4.setCell ⟨wr.heap.size, 1, none⟩ (.slice A8 M c8)).setCell ⟨wr.heap.size, 2, none⟩ (.int .i64 0)).heap[wr.heap.size]? = some (.cells #[.string x.name, .slice A8 M c8, .int .i64 0] 191 (0, 0)) := heap_setCell_same _ _ 2 _ _ (.int .i64 0) (heap_setCell_same w4 _ 1 _ _ (.slice A8 M c8) H4.out.2.1)
            clear z0 z1 z2 f1 f2
            generalize (w4.setCell ⟨wr.heap.size, 1, none⟩ (.slice A8 M c8)).setCell ⟨wr.heap.size, 2, none⟩ (.int .i64 0) = w5 at hb5 hr5 hq5 ⊢
            have hrw := hC.out.at_.below hb5
            have hcl5 := hrw.cells
            have c15 : w5.cell? ⟨rb, 1, none⟩ = some (.slice (some ad) li.length c) := cell_of_row w5 rb 1 _ _ _ hcl5
            rw [hC.out.len] at c15
            have y0 : w5.cell? ⟨wr.heap.size, 0, none⟩ = some (.string x.name) := cell_of_row w5 _ 0 _ _ _ hq5
            have y1 : w5.cell? ⟨wr.heap.size, 1, none⟩ = some (.slice A8 M c8) := cell_of_row w5 _ 1 _ _ _ hq5
            have y2 : w5.cell? ⟨wr.heap.size, 2, none⟩ = some (.int .i64 0) := cell_of_row w5 _ 2 _ _ _ hq5
            have hw5 : wr.heap.size < w5.heap.size := (Array.getElem?_eq_some_iff.1 hq5).1
            have hrb5 : rb < w5.heap.size := by omega
            have hNF : ¬ NoF rb := id
            have hNFq : ¬ NoF wr.heap.size := id
            obtain ⟨g, hg⟩ := hrw.own.first
            have hrg := hrw.own
            rw [hg] at hrg
            obtain ⟨cur, hcur, hcc, hcs, hcn, hFg⟩ := hrg.cur
            have hil : i < li.length := by rw [hC.out.len]; exact hlt
            have hcsz : i * 3 + 2 < cur.size := by
              have h3 : cur.size = c * 3 := hcs
              omega
            obtain ⟨o, ho⟩ : ∃ o, Hid (i * 3 = o) := ⟨_, rfl⟩
            have ha2 : ad.add (i * 3) = ⟨g, o, none⟩ := by
              rw [hg, ← ho.out]
              unfold Addr.add
              split
              · rename_i h; rw [h]
              · simp
            rw [ho.out] at hcsz
            have p0 : w5.cell? ⟨g, o, none⟩ = some cur[o] := (cell_of_row w5 g o _ _ _ hcur).trans (Array.getElem?_eq_getElem _)
            have p1 : w5.cell? ⟨g, o + 1, none⟩ = some cur[o + 1] := (cell_of_row w5 g (o + 1) _ _ _ hcur).trans (Array.getElem?_eq_getElem _)
            have p2 : w5.cell? ⟨g, o + 2, none⟩ = some cur[o + 2] := (cell_of_row w5 g (o + 2) _ _ _ hcur).trans (Array.getElem?_eq_getElem _)
            have g0 : w5.frozen? ⟨g, o, none⟩ = false := frozen_of_row w5 g o _ _ hcur
            have g1 : w5.frozen? ⟨g, o + 1, none⟩ = false := frozen_of_row w5 g (o + 1) _ _ hcur
            have g2 : w5.frozen? ⟨g, o + 2, none⟩ = false := frozen_of_row w5 g (o + 2) _ _ hcur
            generalize cur[o] = u0 at p0
            generalize cur[o + 1] = u1 at p1
            generalize cur[o + 2] = u2 at p2
            have HH5 := Lib.hid (And.intro hb5 (And.intro hr5 (And.intro hrw (And.intro hcur (And.intro ha2 (And.intro hFg (And.intro hcsz (And.intro hg hil))))))))
            clear hb5 hr5 hrw hcur hFg hcsz hcs hcc hcn hcl5 hq5 hrg hg hil
            refine wp_region_plan [0, 0, 0, 0, 0, 0, 2, 2] (fun w' => ∃ D : Same NoF w5, w' = D.world) (by kernel_rfl) (by kernel_rfl) InSame.start ?_
            simp only [sel, selE, Nat.reduceEqDiff, reduceIte]
            repeat (go_big_quiet_step (fail))
            refine wpQuiet_nil ?_
            refine wpE_nil ?_
            go_wp2_with fail
            go_roundw
            case rel =>
              obtain ⟨hb5, hr5, hrw, hcur, -, -, hcsz, hg, hil⟩ := HH5.out
              exact ⟨i + 1, a + 1, _, by omega, by go_num, by go_num, hC.out.put hin hb5 HX.out.1 (by rw [hlo0]; omega) HX.out.2.1 (by rw [hL.out, hlo.out]; exact hmm.out) hr5 hcur hcsz hg ho.out hl8 hm8⟩
            case measure => simp [intOf]; omega
          · obtain ⟨kk, rfl⟩ := Int.eq_ofNat_of_zero_le (show 0 ≤ k0v by omega)
            by_cases hgt : lo < kk
            · have hck : Hid (crashK (ks.drop a) lo = lo) := by
                obtain ⟨h1, h2⟩ := List.getElem?_eq_some_iff.1 hk0
                rw [List.drop_eq_getElem_cons h1, h2]
                show clampN _ lo = _
                unfold clampN
                omega
              clear hk0
              obtain ⟨m, hmm⟩ : ∃ m : Nat, Hid (L - lo + lo = m) := ⟨_, rfl⟩
              have hml : m ≤ L := by have := hmm.out; omega
              have hsl : ∀ W, (Instr.slice 26 (.slice A2 L cp2) none (some (.int .i64 ((L : Int)))) none).run Tryd.prog W = .ok (.slice A2 m cp2) W := by
                have := cut_hi tBytes .i64 A2 L cp2 m (by omega)
                rwa [show ((m : Nat) : Int) = (L : Int) by have := hmm.out; omega] at this
              have hx5 : crashK (ks.drop a) x.loose.toNat = lo := by rw [hlo.out]; exact hck.out
              have HX := Lib.hid (And.intro hx (And.intro hx5 r2))
              clear hck hx hx5 r2 hrd hrd0 hvv hcl hz
              go_wp2_with (first
                | (at_builtin
                   refine wpList_append_S rfl tBytes _ (.tmp 60) rfl (K := kInt .u8) (F := NoF) (G := fun j => Grow F w wr j ∧ j ≠ rb) (v := .slice none 0 0) (xs := []) (ys := x.b.take m) rfl rfl OwnS.nil ?_ (fun k hk => by simp [Value.ownBlock] at hk) ?_ ?_ ?_))
              · exact (HX.out.2.2.take_ m hml).alloc _
              · (try simp); omega
              · (try simp); omega
              intro v4 w4 hA
              have hql : wr.heap.size < (wr.alloc (.cells #[.string x.name, .slice A2 L cp2, .int .i64 lo] 191)).heap.size := by simp
              have hls : ∀ j, v4.ownBlock = some j → wr.heap.size < j := fun j hj => by
                rcases hA.lies j hj with h | h
                · simp [Value.ownBlock] at h
                · have := h.1; omega
              have hO4 : OwnS (kInt .u8) 5 w4 (fun j => wr.heap.size < j) v4 (x.b.take m) := hA.own.flat (flat_int _) hls
              have hb34 := ((Below.refl _ _).grown hA.grown (Nat.le_refl _) (by simp [Value.ownBlock]))
              have hb4 : Below wr.heap.size wr w4 := ((Below.refl _ _).alloc (Nat.le_refl _) (.cells #[.string x.name, .slice A2 L cp2, .int .i64 lo] 191)).trans (hb34.mono (by simp))
              have hq4 := (hA.grown.block wr.heap.size hql (by simp [Value.ownBlock])).trans (heap_alloc_new wr (.cells #[.string x.name, .slice A2 L cp2, .int .i64 lo] 191))
              obtain ⟨A8, c8, rfl, hl8, hm8, hr8⟩ := hO4.reads
              obtain ⟨M, hM⟩ : ∃ M, Hid ((x.b.take m).length = M) := ⟨_, rfl⟩
              rw [hM.out] at hl8 hr8 ⊢
              have hs24 : wr.heap.size < w4.heap.size := Nat.lt_of_lt_of_le hql hb34.size
              have z0 : w4.cell? ⟨wr.heap.size, 0, none⟩ = some (.string x.name) := cell_of_row w4 _ 0 _ _ _ hq4
              have z1 : w4.cell? ⟨wr.heap.size, 1, none⟩ = some (.slice A2 L cp2) := cell_of_row w4 _ 1 _ _ _ hq4
              have z2 : w4.cell? ⟨wr.heap.size, 2, none⟩ = some (.int .i64 lo) := cell_of_row w4 _ 2 _ _ _ hq4
              have f1 : w4.frozen? ⟨wr.heap.size, 1, none⟩ = false := frozen_of_row w4 _ 1 _ _ hq4
              have f2 : w4.frozen? ⟨wr.heap.size, 2, none⟩ = false := frozen_of_row w4 _ 2 _ _ hq4
              have H4 := Lib.hid (And.intro hb4 (And.intro hq4 hr8))
              clear hA hO4 hb34 hb4 hq4 hql hls hr8 k0 k1 k2
              go_wp2_with fail
              have hb5 : Below wr.heap.size wr ((w4.setCell ⟨wr.heap.size, 1, none⟩ (.slice A8 M c8)).setCell ⟨wr.heap.size, 2, none⟩ (.int .i64 0)) := (H4.out.1.setCell (p := ⟨wr.heap.size, 1, none⟩) (Nat.le_refl _) _).setCell (p := ⟨wr.heap.size, 2, none⟩) (Nat.le_refl _) _
              have hr5 : RS (kInt .u8) ((w4.setCell ⟨wr.heap.size, 1, none⟩ (.slice A8 M c8)).setCell ⟨wr.heap.size, 2, none⟩ (.int .i64 0)) (fun j => wr.heap.size < j) A8 M (x.b.take m) := (H4.out.2.2.far (p := ⟨wr.heap.size, 1, none⟩) (Nat.lt_irrefl _) _).far (p := ⟨wr.heap.size, 2, none⟩) (Nat.lt_irrefl _) _
              have hq5 : ((w4.setCell ⟨wr.heap.size, 1, none⟩ (.slice A8 M c8)).setCell ⟨wr.heap.size, 2, none⟩ (.int .i64 0)).heap[wr.heap.size]? = some (.cells #[.string x.name, .slice A8 M c8, .int .i64 0] 191 (0, 0)) := heap_setCell_same _ _ 2 _ _ (.int .i64 0) (heap_setCell_same w4 _ 1 _ _ (.slice A8 M c8) H4.out.2.1)
              clear z0 z1 z2 f1 f2
              generalize (w4.setCell ⟨wr.heap.size, 1, none⟩ (.slice A8 M c8)).setCell ⟨wr.heap.size, 2, none⟩ (.int .i64 0) = w5 at hb5 hr5 hq5 ⊢
              have hrw := hC.out.at_.below hb5
              have hcl5 := hrw.cells
              have c15 : w5.cell? ⟨rb, 1, none⟩ = some (.slice (some ad) li.length c) := cell_of_row w5 rb 1 _ _ _ hcl5
              rw [hC.out.len] at c15
              have y0 : w5.cell? ⟨wr.heap.size, 0, none⟩ = some (.string x.name) := cell_of_row w5 _ 0 _ _ _ hq5
              have y1 : w5.cell? ⟨wr.heap.size, 1, none⟩ = some (.slice A8 M c8) := cell_of_row w5 _ 1 _ _ _ hq5
              have y2 : w5.cell? ⟨wr.heap.size, 2, none⟩ = some (.int .i64 0) := cell_of_row w5 _ 2 _ _ _ hq5
              have hw5 : wr.heap.size < w5.heap.size := (Array.getElem?_eq_some_iff.1 hq5).1
              have hrb5 : rb < w5.heap.size := by omega
              have hNF : ¬ NoF rb := id
              have hNFq : ¬ NoF wr.heap.size := id
              obtain ⟨g, hg⟩ := hrw.own.first
              have hrg := hrw.own
              rw [hg] at hrg
              obtain ⟨cur, hcur, hcc, hcs, hcn, hFg⟩ := hrg.cur
              have hil : i < li.length := by rw [hC.out.len]; exact hlt
              have hcsz : i * 3 + 2 < cur.size := by
                have h3 : cur.size = c * 3 := hcs
                omega
              obtain ⟨o, ho⟩ : ∃ o, Hid (i * 3 = o) := ⟨_, rfl⟩
              have ha2 : ad.add (i * 3) = ⟨g, o, none⟩ := by
                rw [hg, ← ho.out]
                unfold Addr.add
                split
                · rename_i h; rw [h]
                · simp
              rw [ho.out] at hcsz
              have p0 : w5.cell? ⟨g, o, none⟩ = some cur[o] := (cell_of_row w5 g o _ _ _ hcur).trans (Array.getElem?_eq_getElem _)
              have p1 : w5.cell? ⟨g, o + 1, none⟩ = some cur[o + 1] := (cell_of_row w5 g (o + 1) _ _ _ hcur).trans (Array.getElem?_eq_getElem _)
              have p2 : w5.cell? ⟨g, o + 2, none⟩ = some cur[o + 2] := (cell_of_row w5 g (o + 2) _ _ _ hcur).trans (Array.getElem?_eq_getElem _)
              have g0 : w5.frozen? ⟨g, o, none⟩ = false := frozen_of_row w5 g o _ _ hcur
              have g1 : w5.frozen? ⟨g, o + 1, none⟩ = false := frozen_of_row w5 g (o + 1) _ _ hcur
              have g2 : w5.frozen? ⟨g, o + 2, none⟩ = false := frozen_of_row w5 g (o + 2) _ _ hcur
              generalize cur[o] = u0 at p0
              generalize cur[o + 1] = u1 at p1
              generalize cur[o + 2] = u2 at p2
              have HH5 := Lib.hid (And.intro hb5 (And.intro hr5 (And.intro hrw (And.intro hcur (And.intro ha2 (And.intro hFg (And.intro hcsz (And.intro hg hil))))))))
              clear hb5 hr5 hrw hcur hFg hcsz hcs hcc hcn hcl5 hq5 hrg hg hil
              refine wp_region_plan [0, 0, 0, 0, 0, 0, 2, 2] (fun w' => ∃ D : Same NoF w5, w' = D.world) (by kernel_rfl) (by kernel_rfl) InSame.start ?_
              simp only [sel, selE, Nat.reduceEqDiff, reduceIte]
              repeat (go_big_quiet_step (fail))
              refine wpQuiet_nil ?_
              refine wpE_nil ?_
              go_wp2_with fail
              go_roundw
              case rel =>
                obtain ⟨hb5, hr5, hrw, hcur, -, -, hcsz, hg, hil⟩ := HH5.out
                exact ⟨i + 1, a + 1, _, by omega, by go_num, by go_num, hC.out.put hin hb5 HX.out.1 (by rw [hlo0]; omega) HX.out.2.1 (by rw [hL.out, hlo.out]; exact hmm.out) hr5 hcur hcsz hg ho.out hl8 hm8⟩
              case measure => simp [intOf]; omega
            · have hck : Hid (crashK (ks.drop a) lo = kk) := by
                obtain ⟨h1, h2⟩ := List.getElem?_eq_some_iff.1 hk0
                rw [List.drop_eq_getElem_cons h1, h2]
                show clampN _ lo = _
                unfold clampN
                omega
              clear hk0
              obtain ⟨m, hmm⟩ : ∃ m : Nat, Hid (L - lo + kk = m) := ⟨_, rfl⟩
              have hml : m ≤ L := by have := hmm.out; omega
              have hsl : ∀ W, (Instr.slice 26 (.slice A2 L cp2) none (some (.int .i64 ((L : Int) - lo + kk))) none).run Tryd.prog W = .ok (.slice A2 m cp2) W := by
                have := cut_hi tBytes .i64 A2 L cp2 m (by omega)
                rwa [show ((m : Nat) : Int) = (L : Int) - lo + kk by have := hmm.out; omega] at this
              have hx5 : crashK (ks.drop a) x.loose.toNat = kk := by rw [hlo.out]; exact hck.out
              have HX := Lib.hid (And.intro hx (And.intro hx5 r2))
              clear hck hx hx5 r2 hrd hrd0 hvv hcl hz
              go_wp2_with (first
                | (at_builtin
                   refine wpList_append_S rfl tBytes _ (.tmp 60) rfl (K := kInt .u8) (F := NoF) (G := fun j => Grow F w wr j ∧ j ≠ rb) (v := .slice none 0 0) (xs := []) (ys := x.b.take m) rfl rfl OwnS.nil ?_ (fun k hk => by simp [Value.ownBlock] at hk) ?_ ?_ ?_))
              · exact (HX.out.2.2.take_ m hml).alloc _
              · (try simp); omega
              · (try simp); omega
              intro v4 w4 hA
              have hql : wr.heap.size < (wr.alloc (.cells #[.string x.name, .slice A2 L cp2, .int .i64 lo] 191)).heap.size := by simp
              have hls : ∀ j, v4.ownBlock = some j → wr.heap.size < j := fun j hj => by
                rcases hA.lies j hj with h | h
                · simp [Value.ownBlock] at h
                · have := h.1; omega
              have hO4 : OwnS (kInt .u8) 5 w4 (fun j => wr.heap.size < j) v4 (x.b.take m) := hA.own.flat (flat_int _) hls
              have hb34 := ((Below.refl _ _).grown hA.grown (Nat.le_refl _) (by simp [Value.ownBlock]))
              have hb4 : Below wr.heap.size wr w4 := ((Below.refl _ _).alloc (Nat.le_refl _) (.cells #[.string x.name, .slice A2 L cp2, .int .i64 lo] 191)).trans (hb34.mono (by simp))
              have hq4 := (hA.grown.block wr.heap.size hql (by simp [Value.ownBlock])).trans (heap_alloc_new wr (.cells #[.string x.name, .slice A2 L cp2, .int .i64 lo] 191))
              obtain ⟨A8, c8, rfl, hl8, hm8, hr8⟩ := hO4.reads
              obtain ⟨M, hM⟩ : ∃ M, Hid ((x.b.take m).length = M) := ⟨_, rfl⟩
              rw [hM.out] at hl8 hr8 ⊢
              have hs24 : wr.heap.size < w4.heap.size := Nat.lt_of_lt_of_le hql hb34.size
              have z0 : w4.cell? ⟨wr.heap.size, 0, none⟩ = some (.string x.name) := cell_of_row w4 _ 0 _ _ _ hq4
              have z1 : w4.cell? ⟨wr.heap.size, 1, none⟩ = some (.slice A2 L cp2) := cell_of_row w4 _ 1 _ _ _ hq4
              have z2 : w4.cell? ⟨wr.heap.size, 2, none⟩ = some (.int .i64 lo) := cell_of_row w4 _ 2 _ _ _ hq4
              have f1 : w4.frozen? ⟨wr.heap.size, 1, none⟩ = false := frozen_of_row w4 _ 1 _ _ hq4
              have f2 : w4.frozen? ⟨wr.heap.size, 2, none⟩ = false := frozen_of_row w4 _ 2 _ _ hq4
              have H4 := Lib.hid (And.intro hb4 (And.intro hq4 hr8))
              clear hA hO4 hb34 hb4 hq4 hql hls hr8 k0 k1 k2
              go_wp2_with fail
              have hb5 : Below wr.heap.size wr ((w4.setCell ⟨wr.heap.size, 1, none⟩ (.slice A8 M c8)).setCell ⟨wr.heap.size, 2, none⟩ (.int .i64 0)) := (H4.out.1.setCell (p := ⟨wr.heap.size, 1, none⟩) (Nat.le_refl _) _).setCell (p := ⟨wr.heap.size, 2, none⟩) (Nat.le_refl _) _
              have hr5 : RS (kInt .u8) ((w4.setCell ⟨wr.heap.size, 1, none⟩ (.slice A8 M c8)).setCell ⟨wr.heap.size, 2, none⟩ (.int .i64 0)) (fun j => wr.heap.size < j) A8 M (x.b.take m) := (H4.out.2.2.far (p := ⟨wr.heap.size, 1, none⟩) (Nat.lt_irrefl _) _).far (p := ⟨wr.heap.size, 2, none⟩) (Nat.lt_irrefl _) _
              have hq5 : ((w4.setCell ⟨wr.heap.size, 1, none⟩ (.slice A8 M c8)).setCell ⟨wr.heap.size, 2, none⟩ (.int .i64 0)).heap[wr.heap.size]? = some (.cells #[.string x.name, .slice A8 M c8, .int .i64 0] 191 (0, 0)) := heap_setCell_same _ _ 2 _ _ (.int .i64 0) (heap_setCell_same w4 _ 1 _ _ (.slice A8 M c8) H4.out.2.1)
              clear z0 z1 z2 f1 f2
              generalize (w4.setCell ⟨wr.heap.size, 1, none⟩ (.slice A8 M c8)).setCell ⟨wr.heap.size, 2, none⟩ (.int .i64 0) = w5 at hb5 hr5 hq5 ⊢
              have hrw := hC.out.at_.below hb5
              have hcl5 := hrw.cells
              have c15 : w5.cell? ⟨rb, 1, none⟩ = some (.slice (some ad) li.length c) := cell_of_row w5 rb 1 _ _ _ hcl5
              rw [hC.out.len] at c15
              have y0 : w5.cell? ⟨wr.heap.size, 0, none⟩ = some (.string x.name) := cell_of_row w5 _ 0 _ _ _ hq5
              have y1 : w5.cell? ⟨wr.heap.size, 1, none⟩ = some (.slice A8 M c8) := cell_of_row w5 _ 1 _ _ _ hq5
              have y2 : w5.cell? ⟨wr.heap.size, 2, none⟩ = some (.int .i64 0) := cell_of_row w5 _ 2 _ _ _ hq5
              have hw5 : wr.heap.size < w5.heap.size := (Array.getElem?_eq_some_iff.1 hq5).1
              have hrb5 : rb < w5.heap.size := by omega
              have hNF : ¬ NoF rb := id
              have hNFq : ¬ NoF wr.heap.size := id
              obtain ⟨g, hg⟩ := hrw.own.first
              have hrg := hrw.own
              rw [hg] at hrg
              obtain ⟨cur, hcur, hcc, hcs, hcn, hFg⟩ := hrg.cur
              have hil : i < li.length := by rw [hC.out.len]; exact hlt
              have hcsz : i * 3 + 2 < cur.size := by
                have h3 : cur.size = c * 3 := hcs
                omega
              obtain ⟨o, ho⟩ : ∃ o, Hid (i * 3 = o) := ⟨_, rfl⟩
              have ha2 : ad.add (i * 3) = ⟨g, o, none⟩ := by
                rw [hg, ← ho.out]
                unfold Addr.add
                split
                · rename_i h; rw [h]
                · simp
              rw [ho.out] at hcsz
              have p0 : w5.cell? ⟨g, o, none⟩ = some cur[o] := (cell_of_row w5 g o _ _ _ hcur).trans (Array.getElem?_eq_getElem _)
              have p1 : w5.cell? ⟨g, o + 1, none⟩ = some cur[o + 1] := (cell_of_row w5 g (o + 1) _ _ _ hcur).trans (Array.getElem?_eq_getElem _)
              have p2 : w5.cell? ⟨g, o + 2, none⟩ = some cur[o + 2] := (cell_of_row w5 g (o + 2) _ _ _ hcur).trans (Array.getElem?_eq_getElem _)
              have g0 : w5.frozen? ⟨g, o, none⟩ = false := frozen_of_row w5 g o _ _ hcur
              have g1 : w5.frozen? ⟨g, o + 1, none⟩ = false := frozen_of_row w5 g (o + 1) _ _ hcur
              have g2 : w5.frozen? ⟨g, o + 2, none⟩ = false := frozen_of_row w5 g (o + 2) _ _ hcur
              generalize cur[o] = u0 at p0
              generalize cur[o + 1] = u1 at p1
              generalize cur[o + 2] = u2 at p2
              have HH5 := Lib.hid (And.intro hb5 (And.intro hr5 (And.intro hrw (And.intro hcur (And.intro ha2 (And.intro hFg (And.intro hcsz (And.intro hg hil))))))))
              clear hb5 hr5 hrw hcur hFg hcsz hcs hcc hcn hcl5 hq5 hrg hg hil
              refine wp_region_plan [0, 0, 0, 0, 0, 0, 2, 2] (fun w' => ∃ D : Same NoF w5, w' = D.world) (by kernel_rfl) (by kernel_rfl) InSame.start ?_
              simp only [sel, selE, Nat.reduceEqDiff, reduceIte]
              repeat (go_big_quiet_step (fail))
              refine wpQuiet_nil ?_
              refine wpE_nil ?_
              go_wp2_with fail
              go_roundw
              case rel =>
                obtain ⟨hb5, hr5, hrw, hcur, -, -, hcsz, hg, hil⟩ := HH5.out
                exact ⟨i + 1, a + 1, _, by omega, by go_num, by go_num, hC.out.put hin hb5 HX.out.1 (by rw [hlo0]; omega) HX.out.2.1 (by rw [hL.out, hlo.out]; exact hmm.out) hr5 hcur hcsz hg ho.out hl8 hm8⟩
              case measure => simp [intOf]; omega
        · have hck : Hid (crashK (ks.drop a) lo = 0) := by
            rw [List.drop_of_length_le (by rw [hC.out.keep.length]; omega)]; exact rfl
          obtain ⟨m, hmm⟩ : ∃ m : Nat, Hid (L - lo + 0 = m) := ⟨_, rfl⟩
          have hml : m ≤ L := by have := hmm.out; omega
          have hsl : ∀ W, (Instr.slice 26 (.slice A2 L cp2) none (some (.int .i64 ((L : Int) - lo))) none).run Tryd.prog W = .ok (.slice A2 m cp2) W := by
            have := cut_hi tBytes .i64 A2 L cp2 m (by omega)
            rwa [show ((m : Nat) : Int) = (L : Int) - lo by have := hmm.out; omega] at this
          have hx5 : crashK (ks.drop a) x.loose.toNat = 0 := by rw [hlo.out]; exact hck.out
          have HX := Lib.hid (And.intro hx (And.intro hx5 r2))
          clear hck hx hx5 r2 hrd hrd0 hvv hcl hz
          go_wp2_with (first
            | (at_builtin
               refine wpList_append_S rfl tBytes _ (.tmp 60) rfl (K := kInt .u8) (F := NoF) (G := fun j => Grow F w wr j ∧ j ≠ rb) (v := .slice none 0 0) (xs := []) (ys := x.b.take m) rfl rfl OwnS.nil ?_ (fun k hk => by simp [Value.ownBlock] at hk) ?_ ?_ ?_))
          · exact (HX.out.2.2.take_ m hml).alloc _
          · (try simp); omega
          · (try simp); omega
          intro v4 w4 hA
          have hql : wr.heap.size < (wr.alloc (.cells #[.string x.name, .slice A2 L cp2, .int .i64 lo] 191)).heap.size := by simp
          have hls : ∀ j, v4.ownBlock = some j → wr.heap.size < j := fun j hj => by
            rcases hA.lies j hj with h | h
            · simp [Value.ownBlock] at h
            · have := h.1; omega
          have hO4 : OwnS (kInt .u8) 5 w4 (fun j => wr.heap.size < j) v4 (x.b.take m) := hA.own.flat (flat_int _) hls
          have hb34 := ((Below.refl _ _).grown hA.grown (Nat.le_refl _) (by simp [Value.ownBlock]))
          have hb4 : Below wr.heap.size wr w4 := ((Below.refl _ _).alloc (Nat.le_refl _) (.cells #[.string x.name, .slice A2 L cp2, .int .i64 lo] 191)).trans (hb34.mono (by simp))
          have hq4 := (hA.grown.block wr.heap.size hql (by simp [Value.ownBlock])).trans (heap_alloc_new wr (.cells #[.string x.name, .slice A2 L cp2, .int .i64 lo] 191))
          obtain ⟨A8, c8, rfl, hl8, hm8, hr8⟩ := hO4.reads
          obtain ⟨M, hM⟩ : ∃ M, Hid ((x.b.take m).length = M) := ⟨_, rfl⟩
          rw [hM.out] at hl8 hr8 ⊢
          have hs24 : wr.heap.size < w4.heap.size := Nat.lt_of_lt_of_le hql hb34.size
          have z0 : w4.cell? ⟨wr.heap.size, 0, none⟩ = some (.string x.name) := cell_of_row w4 _ 0 _ _ _ hq4
          have z1 : w4.cell? ⟨wr.heap.size, 1, none⟩ = some (.slice A2 L cp2) := cell_of_row w4 _ 1 _ _ _ hq4
          have z2 : w4.cell? ⟨wr.heap.size, 2, none⟩ = some (.int .i64 lo) := cell_of_row w4 _ 2 _ _ _ hq4
          have f1 : w4.frozen? ⟨wr.heap.size, 1, none⟩ = false := frozen_of_row w4 _ 1 _ _ hq4
          have f2 : w4.frozen? ⟨wr.heap.size, 2, none⟩ = false := frozen_of_row w4 _ 2 _ _ hq4
          have H4 := Lib.hid (And.intro hb4 (And.intro hq4 hr8))
          clear hA hO4 hb34 hb4 hq4 hql hls hr8 k0 k1 k2
          go_wp2_with fail
          have hb5 : Below wr.heap.size wr ((w4.setCell ⟨wr.heap.size, 1, none⟩ (.slice A8 M c8)).setCell ⟨wr.heap.size, 2, none⟩ (.int .i64 0)) := (H4.out.1.setCell (p := ⟨wr.heap.size, 1, none⟩) (Nat.le_refl _) _).setCell (p := ⟨wr.heap.size, 2, none⟩) (Nat.le_refl _) _
          have hr5 : RS (kInt .u8) ((w4.setCell ⟨wr.heap.size, 1, none⟩ (.slice A8 M c8)).setCell ⟨wr.heap.size, 2, none⟩ (.int .i64 0)) (fun j => wr.heap.size < j) A8 M (x.b.take m) := (H4.out.2.2.far (p := ⟨wr.heap.size, 1, none⟩) (Nat.lt_irrefl _) _).far (p := ⟨wr.heap.size, 2, none⟩) (Nat.lt_irrefl _) _
          have hq5 : ((w4.setCell ⟨wr.heap.size, 1, none⟩ (.slice A8 M c8)).setCell ⟨wr.heap.size, 2, none⟩ (.int .i64 0)).heap[wr.heap.size]? = some (.cells #[.string x.name, .slice A8 M c8, .int .i64 0] 191 (0, 0)) := heap_setCell_same _ _ 2 _ _ (.int .i64 0) (heap_setCell_same w4 _ 1 _ _ (.slice A8 M c8) H4.out.2.1)
          clear z0 z1 z2 f1 f2
          generalize (w4.setCell ⟨wr.heap.size, 1, none⟩ (.slice A8 M c8)).setCell ⟨wr.heap.size, 2, none⟩ (.int .i64 0) = w5 at hb5 hr5 hq5 ⊢
          have hrw := hC.out.at_.below hb5
          have hcl5 := hrw.cells
          have c15 : w5.cell? ⟨rb, 1, none⟩ = some (.slice (some ad) li.length c) := cell_of_row w5 rb 1 _ _ _ hcl5
          rw [hC.out.len] at c15
          have y0 : w5.cell? ⟨wr.heap.size, 0, none⟩ = some (.string x.name) := cell_of_row w5 _ 0 _ _ _ hq5
          have y1 : w5.cell? ⟨wr.heap.size, 1, none⟩ = some (.slice A8 M c8) := cell_of_row w5 _ 1 _ _ _ hq5
          have y2 : w5.cell? ⟨wr.heap.size, 2, none⟩ = some (.int .i64 0) := cell_of_row w5 _ 2 _ _ _ hq5
          have hw5 : wr.heap.size < w5.heap.size := (Array.getElem?_eq_some_iff.1 hq5).1
          have hrb5 : rb < w5.heap.size := by omega
          have hNF : ¬ NoF rb := id
          have hNFq : ¬ NoF wr.heap.size := id
          obtain ⟨g, hg⟩ := hrw.own.first
          have hrg := hrw.own
          rw [hg] at hrg
          obtain ⟨cur, hcur, hcc, hcs, hcn, hFg⟩ := hrg.cur
          have hil : i < li.length := by rw [hC.out.len]; exact hlt
          have hcsz : i * 3 + 2 < cur.size := by
            have h3 : cur.size = c * 3 := hcs
            omega
          obtain ⟨o, ho⟩ : ∃ o, Hid (i * 3 = o) := ⟨_, rfl⟩
          have ha2 : ad.add (i * 3) = ⟨g, o, none⟩ := by
            rw [hg, ← ho.out]
            unfold Addr.add
            split
            · rename_i h; rw [h]
            · simp
          rw [ho.out] at hcsz
          have p0 : w5.cell? ⟨g, o, none⟩ = some cur[o] := (cell_of_row w5 g o _ _ _ hcur).trans (Array.getElem?_eq_getElem _)
          have p1 : w5.cell? ⟨g, o + 1, none⟩ = some cur[o + 1] := (cell_of_row w5 g (o + 1) _ _ _ hcur).trans (Array.getElem?_eq_getElem _)
          have p2 : w5.cell? ⟨g, o + 2, none⟩ = some cur[o + 2] := (cell_of_row w5 g (o + 2) _ _ _ hcur).trans (Array.getElem?_eq_getElem _)
          have g0 : w5.frozen? ⟨g, o, none⟩ = false := frozen_of_row w5 g o _ _ hcur
          have g1 : w5.frozen? ⟨g, o + 1, none⟩ = false := frozen_of_row w5 g (o + 1) _ _ hcur
          have g2 : w5.frozen? ⟨g, o + 2, none⟩ = false := frozen_of_row w5 g (o + 2) _ _ hcur
          generalize cur[o] = u0 at p0
          generalize cur[o + 1] = u1 at p1
          generalize cur[o + 2] = u2 at p2
          have HH5 := Lib.hid (And.intro hb5 (And.intro hr5 (And.intro hrw (And.intro hcur (And.intro ha2 (And.intro hFg (And.intro hcsz (And.intro hg hil))))))))
          clear hb5 hr5 hrw hcur hFg hcsz hcs hcc hcn hcl5 hq5 hrg hg hil
          refine wp_region_plan [0, 0, 0, 0, 0, 0, 2, 2] (fun w' => ∃ D : Same NoF w5, w' = D.world) (by kernel_rfl) (by kernel_rfl) InSame.start ?_
          simp only [sel, selE, Nat.reduceEqDiff, reduceIte]
          repeat (go_big_quiet_step (fail))
          refine wpQuiet_nil ?_
          refine wpE_nil ?_
          go_wp2_with fail
          go_roundw
          case rel =>
            obtain ⟨hb5, hr5, hrw, hcur, -, -, hcsz, hg, hil⟩ := HH5.out
            exact ⟨i + 1, a + 1, _, by omega, by go_num, by go_num, hC.out.put hin hb5 HX.out.1 (by rw [hlo0]; omega) HX.out.2.1 (by rw [hL.out, hlo.out]; exact hmm.out) hr5 hcur hcsz hg ho.out hl8 hm8⟩
          case measure => simp [intOf]; omega
    · obtain rfl : i = l.length := by omega
      go_wp2
      go_end0
      have hq := hC.out.go
      rw [List.drop_of_length_le (by rw [hC.out.len]; exact Nat.le_refl _), List.take_of_length_le (by rw [hC.out.len]; exact Nat.le_refl _)] at hq
      have hq2 : li = rcrash l ks := by simpa [rcrash] using hq
      rw [← hq2]
      exact ⟨rfl, ⟨A, c, hC.out.at_⟩, hC.out.kps⟩
end Go.Proofs.YtfjndjbpgcggkaaDoor
