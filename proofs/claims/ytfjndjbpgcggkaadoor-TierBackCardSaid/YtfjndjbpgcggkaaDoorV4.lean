/- frame.Put, the program's and the document's. -/
import Derived.Test.YtfjndjbpgcggkaaDoorV1
import Derived.Test.YtfjndjbpgcggkaaDoorV2
import Derived.Test.YtfjndjbpgcggkaaDoorAS
set_option linter.unusedVariables false
set_option linter.unusedSimpArgs false
namespace Go.Proofs.YtfjndjbpgcggkaaDoor
open Go.RowKit

def sum4 (x : Int) : List Int := [x / 16777216, x / 65536 % 256, x / 256 % 256, x % 256]
/-- A piece's frame. -/
def fput (p : List Int) : List Int := vput p.length ++ sum4 (crcSum p) ++ p

theorem vputF_len : ∀ (f x : Nat), 1 ≤ (vputF f x).length ∧ (vputF f x).length ≤ f + 1
  | 0, _ => ⟨Nat.le_refl _, Nat.le_refl _⟩
  | f + 1, x => by
    rw [vputF]
    split
    · simp
    · have := vputF_len f (x / 128)
      rw [List.length_cons]
      omega
theorem vput_len (x : Nat) : (vput x).length ≤ 10 := (vputF_len 9 x).2
theorem made_lit4 (T : TypeId) (W : World) (a b c d : Int) : Made (kInt .u8) T W (W.alloc (.cells #[.int .u8 a, .int .u8 b, .int .u8 c, .int .u8 d] T)) (New W (W.alloc (.cells #[.int .u8 a, .int .u8 b, .int .u8 c, .int .u8 d] T))) (.slice (some ⟨W.heap.size, 0, none⟩) 4 4) [a, b, c, d] := by
  have h := OwnS.lit (K := kInt .u8) (e := T) W (F := NoF) (xs := [a, b, c, d]) (cs := #[.int .u8 a, .int .u8 b, .int .u8 c, .int .u8 d]) (elems_nums [a, b, c, d]) (by simp)
  refine ⟨h.flat (flat_int _) fun k hk => ?_, fun k hk => ?_, (Below.refl _ _).alloc (Nat.le_refl _) _⟩
  · have : W.heap.size = k := by simpa [Value.ownBlock] using hk
    exact ⟨by omega, by simp; omega⟩
  · have : W.heap.size = k := by simpa [Value.ownBlock] using hk
    omega

set_option maxHeartbeats 2000000 in
theorem written_any (x : Int) (w : World) (hx : 0 ≤ x ∧ x < 4294967296) :
    Calls Tryd.prog 126 #[.int .u32 x] w fun e w' => ∃ v, e = .returned v ∧ Made (kInt .u8) 5 w w' (New w w') v (sum4 x) := by
  obtain ⟨h1, h2⟩ := hx
  go_enter Tryd.func126, Tryd.ntmps126
  go_wp2
  go_ret
  exact ⟨_, rfl, made_lit4 _ _ _ _ _ _⟩

set_option maxHeartbeats 4000000 in
set_option maxRecDepth 100000 in
theorem fPut_any (A : Option Addr) (n c : Nat) (bs : List Int) (B : Option Addr) (m d : Nat) (p : List Int) (w : World) (F G : Foot) (hb : RS (kInt .u8) w F A n bs) (hp : RS (kInt .u8) w G B m p) (hn : n ≤ 1000000000) (hm : m ≤ 1000000000) (hB : Bytes p) :
    Calls Tryd.prog 70 #[.slice A n c, .slice B m d] w fun e w' => ∃ v, e = .returned v ∧ Made (kInt .u8) 5 w w' (New w w') v (bs ++ fput p) := by
  have hlp := hp.length
  have Hs := Lib.hid (crcMore_range 0 p)
  have HP := Lib.hid (vPut_any A n c bs m w F hb (by omega) (by omega))
  have Hp := Lib.hid hp.bound
  have Hlb := Lib.hid hb.length
  have Hlp := Lib.hid hlp
  have hpow : m < 18446744073709551616 := by omega
  clear hlp hb hp
  go_enter Tryd.func70, Tryd.ntmps70
  go_wp2_with fail
  refine HP.out.mono ?_
  rintro e w1 ⟨v1, rfl, hM1⟩
  obtain ⟨A1, c1, rfl, hc1, hd1, -⟩ := hM1.own.reads
  obtain ⟨b1, hb1⟩ : ∃ b1, Hid (bs ++ vput m = b1) := ⟨_, rfl⟩
  rw [hb1.out] at hc1 hM1 ⊢
  obtain ⟨n1, hn1⟩ : ∃ n1, Hid (b1.length = n1) := ⟨_, rfl⟩
  rw [hn1.out] at hc1 hM1 ⊢
  have HM1 := Lib.hid hM1
  have hp1 := Hp.out.below hM1.below
  have hn1b : n1 ≤ 1000000100 := by
    rw [← hn1.out, ← hb1.out, List.length_append, Hlb.out]
    have := vput_len m
    omega
  clear hM1
  go_wp2_with fail
  refine (cSum_any B m d p w1 _ hp1 (by omega) hB).mono ?_
  rintro e w1' ⟨rfl, hw⟩
  rw [hw]
  clear hw w1'
  go_wp2_with fail
  refine (written_any (crcSum p) w1 Hs.out).mono ?_
  rintro e w2 ⟨v2, rfl, hM2⟩
  obtain ⟨A2, c2, rfl, hc2, hd2, hr2⟩ := hM2.own.reads
  rw [show (sum4 (crcSum p)).length = 4 from rfl] at hc2 ⊢
  have hO1 := HM1.out.own.below hM2.below
  have hs12 := hM2.below.size
  have hb2 := HM1.out.below.trans (hM2.below.mono HM1.out.below.size)
  have hr2' : RS (kInt .u8) w2 (New w1 w2) A2 4 (sum4 (crcSum p)) := hr2
  clear hM2 hr2
  go_wp2_with (first
    | (at_builtin
       refine wpList_append_S rfl tBytes (.tmp 11) (.tmp 14) rfl (K := kInt .u8) rfl rfl hO1 hr2' ?_ ?_ ?_ ?_))
  · intro j hj hj2
    have h1 := (HM1.out.own.lt j hj).2
    have := hj2.1
    omega
  · have := hn1.out; omega
  · have := hn1.out; omega
  intro v3 w3 hA3
  clear hO1 hr2'
  have hs1 := HM1.out.below.size
  have hO3 : OwnS (kInt .u8) 5 w3 (New w w3) v3 (b1 ++ sum4 (crcSum p)) := OwnS.flat (G := New w w3) (flat_int _) hA3.own fun j hj => by
    have hlt := (hA3.own.lt j hj).2
    refine ⟨?_, hlt⟩
    rcases hA3.lies j hj with h | h
    · exact HM1.out.new j h
    · have := h.1; have := hs12; omega
  have hb3 : Below w.heap.size w w3 := (hb2.grown hA3.grown (by omega) (fun j hj => HM1.out.new j hj))
  have hp3 := Hp.out.below hb3
  obtain ⟨A3, n3, c3, rfl⟩ := hO3.shape
  obtain ⟨b3, hb3e⟩ : ∃ b3, Hid (b1 ++ sum4 (crcSum p) = b3) := ⟨_, rfl⟩
  have hb3l : Hid (b3.length = n1 + 4) := by
    show b3.length = _
    rw [← hb3e.out, List.length_append, hn1.out]
    rfl
  rw [hb3e.out] at hO3
  have HO3 := Lib.hid (And.intro hO3 hb3)
  clear hA3 hO3 hb3 hp1 hs1
  go_wp2_with (first
    | (at_builtin
       refine wpList_append_S rfl tBytes (.tmp 15) (.tmp 16) rfl (K := kInt .u8) rfl rfl HO3.out.1 hp3 ?_ ?_ ?_ ?_))
  · intro j hj hj2
    have h1 := (HO3.out.1.lt j hj).1.1
    have := hj2.2
    omega
  · have := hb3l.out; omega
  · have := hb3l.out; omega
  intro v4 w4 hA4
  have hs3 := HO3.out.2.size
  have hO4 : OwnS (kInt .u8) 5 w4 (New w w4) v4 (b3 ++ p) := OwnS.flat (G := New w w4) (flat_int _) hA4.own fun j hj => by
    have hlt := (hA4.own.lt j hj).2
    refine ⟨?_, hlt⟩
    rcases hA4.lies j hj with h | h
    · exact (HO3.out.1.lt j h).1.1
    · have := h.1; omega
  have hb4 : Below w.heap.size w w4 := HO3.out.2.grown hA4.grown hs3 (fun j hj => (HO3.out.1.lt j hj).1.1)
  have HO4 := Lib.hid (And.intro hO4 hb4)
  clear hA4 hO4 hb4 hp3
  go_wp2
  go_ret
  have he : bs ++ fput p = b3 ++ p := by
    rw [← hb3e.out, ← hb1.out]
    unfold fput
    rw [Hlp.out]
    simp only [List.append_assoc]
  rw [he]
  exact ⟨_, rfl, HO4.out.1, fun k hk => (HO4.out.1.lt k hk).1.1, HO4.out.2⟩

set_option maxHeartbeats 4000000 in
set_option maxRecDepth 100000 in
theorem rFPut_any (A : Option Addr) (n c : Nat) (bs : List Int) (B : Option Addr) (m d : Nat) (p : List Int) (w : World) (F G : Foot) (hb : RS (kInt .u8) w F A n bs) (hp : RS (kInt .u8) w G B m p) (hn : n ≤ 1000000000) (hm : m ≤ 1000000000) (hB : Bytes p) :
    Calls Tryd.prog 103 #[.slice A n c, .slice B m d] w fun e w' => ∃ v, e = .returned v ∧ Made (kInt .u8) 5 w w' (New w w') v (bs ++ fput p) := by
  have hlp := hp.length
  have Hs := Lib.hid (crcMore_range 0 p)
  have HP := Lib.hid (rPut_any A n c bs m w F hb (by omega) (by omega))
  have Hp := Lib.hid hp.bound
  have Hlb := Lib.hid hb.length
  have Hlp := Lib.hid hlp
  have hpow : m < 18446744073709551616 := by omega
  clear hlp hb hp
  go_enter Tryd.func103, Tryd.ntmps103
  go_wp2_with fail
  refine HP.out.mono ?_
  rintro e w1 ⟨v1, rfl, hM1⟩
  obtain ⟨A1, c1, rfl, hc1, hd1, -⟩ := hM1.own.reads
  obtain ⟨b1, hb1⟩ : ∃ b1, Hid (bs ++ vput m = b1) := ⟨_, rfl⟩
  rw [hb1.out] at hc1 hM1 ⊢
  obtain ⟨n1, hn1⟩ : ∃ n1, Hid (b1.length = n1) := ⟨_, rfl⟩
  rw [hn1.out] at hc1 hM1 ⊢
  have HM1 := Lib.hid hM1
  have hp1 := Hp.out.below hM1.below
  have hn1b : n1 ≤ 1000000100 := by
    rw [← hn1.out, ← hb1.out, List.length_append, Hlb.out]
    have := vput_len m
    omega
  clear hM1
  go_wp2_with fail
  refine (rSum_any B m d p w1 _ hp1 (by omega) hB).mono ?_
  rintro e w1' ⟨rfl, hw⟩
  rw [hw]
  clear hw w1'
  obtain ⟨x, hx⟩ : ∃ x, Hid (crcSum p = x) := ⟨_, rfl⟩
  have hx1 := Hs.out
  rw [show crcMore 0 p = crcSum p from rfl, hx.out] at hx1
  obtain ⟨hx1, hx2⟩ := hx1
  rw [hx.out]
  have hM2 := made_lit4 5 w1 (x / 16777216) (x / 65536 % 256) (x / 256 % 256) (x % 256)
  have hO1 := HM1.out.own.below hM2.below
  obtain ⟨A2, c2, hA2, -, -, hr2⟩ := hM2.own.reads
  have hr2' : RS (kInt .u8) (w1.alloc (.cells #[.int .u8 (x / 16777216), .int .u8 (x / 65536 % 256), .int .u8 (x / 256 % 256), .int .u8 (x % 256)] 5)) (fun k => w1.heap.size ≤ k) (some ⟨w1.heap.size, 0, none⟩) 4 (sum4 (crcSum p)) := by
    rw [hx.out]
    injection hA2 with h1 h2 h3
    subst h1
    exact hr2.mono fun k hk => hk.1
  have hs12 := hM2.below.size
  have hb2 := HM1.out.below.trans (hM2.below.mono HM1.out.below.size)
  clear hM2 hr2 hA2
  go_wp2_with (first
    | (at_builtin
       refine wpList_append_S rfl tBytes (.tmp 13) (.tmp 25) rfl (K := kInt .u8) rfl rfl hO1 hr2' ?_ ?_ ?_ ?_))
  · intro j hj hj2
    have h1 := (HM1.out.own.lt j hj).2
    have hj2 : w1.heap.size ≤ j := hj2
    omega
  · have := hn1.out; omega
  · have := hn1.out; omega
  intro v3 w3 hA3
  clear hO1 hr2'
  have hs1 := HM1.out.below.size
  have hO3 : OwnS (kInt .u8) 5 w3 (New w w3) v3 (b1 ++ sum4 (crcSum p)) := OwnS.flat (G := New w w3) (flat_int _) hA3.own fun j hj => by
    have hlt := (hA3.own.lt j hj).2
    refine ⟨?_, hlt⟩
    rcases hA3.lies j hj with h | h
    · exact HM1.out.new j h
    · have := h.1; have := hs12; omega
  have hb3 : Below w.heap.size w w3 := (hb2.grown hA3.grown (by omega) (fun j hj => HM1.out.new j hj))
  have hp3 := Hp.out.below hb3
  obtain ⟨A3, n3, c3, rfl⟩ := hO3.shape
  obtain ⟨b3, hb3e⟩ : ∃ b3, Hid (b1 ++ sum4 (crcSum p) = b3) := ⟨_, rfl⟩
  have hb3l : Hid (b3.length = n1 + 4) := by
    show b3.length = _
    rw [← hb3e.out, List.length_append, hn1.out]
    rfl
  rw [hb3e.out] at hO3
  have HO3 := Lib.hid (And.intro hO3 hb3)
  clear hA3 hO3 hb3 hp1 hs1
  go_wp2_with (first
    | (at_builtin
       refine wpList_append_S rfl tBytes (.tmp 27) (.tmp 28) rfl (K := kInt .u8) rfl rfl HO3.out.1 hp3 ?_ ?_ ?_ ?_))
  · intro j hj hj2
    have h1 := (HO3.out.1.lt j hj).1.1
    have := hj2.2
    omega
  · have := hb3l.out; omega
  · have := hb3l.out; omega
  intro v4 w4 hA4
  have hs3 := HO3.out.2.size
  have hO4 : OwnS (kInt .u8) 5 w4 (New w w4) v4 (b3 ++ p) := OwnS.flat (G := New w w4) (flat_int _) hA4.own fun j hj => by
    have hlt := (hA4.own.lt j hj).2
    refine ⟨?_, hlt⟩
    rcases hA4.lies j hj with h | h
    · exact (HO3.out.1.lt j h).1.1
    · have := h.1; omega
  have hb4 : Below w.heap.size w w4 := HO3.out.2.grown hA4.grown hs3 (fun j hj => (HO3.out.1.lt j hj).1.1)
  have HO4 := Lib.hid (And.intro hO4 hb4)
  clear hA4 hO4 hb4 hp3
  go_wp2
  go_ret
  have he : bs ++ fput p = b3 ++ p := by
    rw [← hb3e.out, ← hb1.out]
    unfold fput
    rw [Hlp.out]
    simp only [List.append_assoc]
  rw [he]
  exact ⟨_, rfl, HO4.out.1, fun k hk => (HO4.out.1.lt k hk).1.1, HO4.out.2⟩
end Go.Proofs.YtfjndjbpgcggkaaDoor
