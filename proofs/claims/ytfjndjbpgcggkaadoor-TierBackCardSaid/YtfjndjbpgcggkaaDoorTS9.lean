/- store.Get, Fail, New: contracts. -/
import Derived.Test.YtfjndjbpgcggkaaDoorTS7
import Derived.Laws.BytesArg
import Derived.Lib.SlBytesConst
set_option linter.unusedVariables false
set_option linter.unusedSimpArgs false
namespace Go.Proofs.YtfjndjbpgcggkaaDoor
open Go.RowKit

def getE (n : Int) (s : ByteArray) (c : SObjs) : Int := toldE n (found s c).2
def getB (n : Int) (s : ByteArray) (c : SObjs) : List Int := if getE n s c = 0 then (found s c).1 else []

set_option maxHeartbeats 2000000 in
set_option maxRecDepth 100000 in
theorem Get_any (B sb : Nat) (s : ByteArray) (w : World) (F : Foot) (room : Int) (bad : List Int) (c : SObjs) (h : StoreAt w F sb room bad c) (hs : s.size ≤ 35184372088832)
    (hE : Env B w) (hFB : ∀ k, F k → B ≤ k) :
    Calls Tryd.prog 98 #[.pointer (some ⟨sb, 0, none⟩), .string s] w (GetPost w F sb room bad.tail c (getB (how bad) s c) (getE (how bad) s c)) := by
  have hm1 := hmf
  have H := Lib.hid (And.intro h.bound hE)
  have ha1 := ta_iface
  have ha2 := ta_nil
  clear h hE
  go_enter Tryd.func98, Tryd.ntmps98
  go_wp2_with fail
  obtain ⟨h, hE⟩ := H.out
  have hbl3 : Below w.heap.size w ((w.alloc (.cells #[.pointer (some ⟨sb, 0, none⟩)] 81)).alloc (.cells #[.string s] 9)) := ((Below.refl _ _).alloc (Nat.le_refl _) _).alloc (by simp) _
  have hp3 : ((w.alloc (.cells #[.pointer (some ⟨sb, 0, none⟩)] 81)).alloc (.cells #[.string s] 9)).cell? ⟨w.heap.size, 0, none⟩ = some (.pointer (some ⟨sb, 0, none⟩)) := by go_simp
  have hq3 : ((w.alloc (.cells #[.pointer (some ⟨sb, 0, none⟩)] 81)).alloc (.cells #[.string s] 9)).cell? ⟨w.heap.size + 1, 0, none⟩ = some (.string s) := by go_simp
  have hE3 := hE.step (hbl3.mono hE.le)
  have hs3 := hbl3.size
  generalize (w.alloc (.cells #[.pointer (some ⟨sb, 0, none⟩)] 81)).alloc (.cells #[.string s] 9) = w3 at hbl3 hp3 hq3 hE3 hs3 ⊢
  refine (call_any 140 #[] #[.pointer (some ⟨w.heap.size, 0, none⟩), .pointer (some ⟨w.heap.size + 1, 0, none⟩)] (fun _ => by kernel_rfl) (GotData (found s c).1 (found s c).2) sb w3 (fun k => F k ∧ k < w.heap.size) room bad c (h.below hbl3) (fun w4 h4 hk4 hz4 => ?_)).mono ?_
  · have hb4 := hk4.below_at hE3.le (fun k hk => hFB k hk.1)
    exact GetF sb _ _ s w4 _ room bad.tail c h4 hs (hE3.step hb4).now
      (hk4.cell hp3 (fun hk => by have := hk.2; simp only at this; omega)) (hk4.cell hq3 (fun hk => by have := hk.2; simp only at this; omega))
  · intro e w5 hc
    have key : ∀ w5, StoreAt w5 (fun k => F k ∧ k < w.heap.size) sb room bad.tail c → Keeps (fun k => F k ∧ k < w.heap.size) w3 w5 → StoreAt w5 F sb room bad.tail c ∧ Keeps F w w5 := fun w5 h5 hk5 =>
      ⟨h5.mono fun _ hk => hk.1, (Keeps.of_below hbl3 F).trans (hk5.mono fun k _ hk => hk.1)⟩
    have HK := Lib.hid key
    clear key H h hE hE3 hp3 hq3
    unfold CallPost at hc
    by_cases hsk : how bad ≠ 0 ∧ how bad ≠ 2
    · rw [if_pos hsk] at hc
      obtain ⟨rfl, h5, hk5⟩ := hc
      have he : getE (how bad) s c = 9 := by unfold getE toldE; rw [if_pos hsk]
      have hfin : Hid (GetPost w F sb room bad.tail c (getB (how bad) s c) (getE (how bad) s c) (.returned (.tuple #[.slice none 0 0, .int .i64 9])) w5) := by
        show GetPost w F sb room bad.tail c (getB (how bad) s c) (getE (how bad) s c) (.returned (.tuple #[.slice none 0 0, .int .i64 9])) w5
        unfold getB
        rw [he]
        exact ⟨_, rfl, ⟨none, 0, rfl, by simp, by omega, RS.nil⟩, HK.out _ h5 hk5⟩
      clear h5 hk5 hsk he
      go_wp2
      go_ret2
      exact hfin.out
    · rw [if_neg hsk] at hc
      obtain ⟨w1, v, err, h1, h2, h3, ⟨u, rfl, rfl, hu, hb5⟩, rfl⟩ := hc
      have h5 := HK.out _ (h1.below hb5) (h2.trans (Keeps.of_below hb5 _))
      have hu5 : RV w5 (New w w5) u (found s c).1 := hu.mono fun k hk => ⟨by have := hk.1; omega, hk.2⟩
      clear hu h1 h2 hb5
      obtain ⟨fe, hfe⟩ : ∃ fe, fe = (found s c).2 := ⟨_, rfl⟩
      rw [← hfe]
      by_cases hc2 : fe = 0 ∧ how bad = 2
      · have he : getE (how bad) s c = 9 := by unfold getE toldE; rw [if_neg hsk, ← hfe, if_pos hc2]
        have hfin : Hid (GetPost w F sb room bad.tail c (getB (how bad) s c) (getE (how bad) s c) (.returned (.tuple #[.slice none 0 0, .int .i64 9])) w5) := by
          show GetPost w F sb room bad.tail c (getB (how bad) s c) (getE (how bad) s c) (.returned (.tuple #[.slice none 0 0, .int .i64 9])) w5
          unfold getB
          rw [he]
          exact ⟨_, rfl, ⟨none, 0, rfl, by simp, by omega, RS.nil⟩, h5⟩
        rw [if_pos hc2]
        clear hsk he hc2 h5 hu5 hfe
        go_wp2
        go_ret2
        exact hfin.out
      · have he : getE (how bad) s c = fe := by unfold getE toldE; rw [if_neg hsk, ← hfe, if_neg hc2]
        rw [if_neg hc2]
        by_cases h0 : fe = 0
        · have hfin : Hid (GetPost w F sb room bad.tail c (getB (how bad) s c) (getE (how bad) s c) (.returned (.tuple #[u, .int .i64 0])) w5) := by
            show GetPost w F sb room bad.tail c (getB (how bad) s c) (getE (how bad) s c) (.returned (.tuple #[u, .int .i64 0])) w5
            unfold getB
            rw [he, if_pos h0, h0]
            exact ⟨_, rfl, hu5, h5⟩
          rw [h0]
          clear hsk he hc2 h5 hu5 hfe h0
          go_wp2
          go_ret2
          exact hfin.out
        · have hfin : Hid (GetPost w F sb room bad.tail c (getB (how bad) s c) (getE (how bad) s c) (.returned (.tuple #[.slice none 0 0, .int .i64 fe])) w5) := by
            show GetPost w F sb room bad.tail c (getB (how bad) s c) (getE (how bad) s c) (.returned (.tuple #[.slice none 0 0, .int .i64 fe])) w5
            unfold getB
            rw [he, if_neg h0]
            exact ⟨_, rfl, ⟨none, 0, rfl, by simp, by omega, RS.nil⟩, h5⟩
          have eb : (fe != 0) = true := by rw [bne_iff_ne]; exact h0
          clear hsk he hc2 h5 hu5 hfe h0
          go_wp2
          go_ret2
          exact hfin.out

set_option maxHeartbeats 2000000 in
set_option maxRecDepth 100000 in
set_option maxHeartbeats 2000000 in
theorem SNew_any (room : Int) (w : World) (h0 : -9223372036854775808 ≤ room) (h1 : room ≤ 9223372036854775807) :
    Calls Tryd.prog 43 #[.int .i64 room] w fun e w' => ∃ sb, e = .returned (.pointer (some ⟨sb, 0, none⟩)) ∧ StoreAt w' (New w w') sb (max 0 room) [] [] ∧ Below w.heap.size w w' := by
  have hmm := @run_makeMap Tryd.prog
  go_enter Tryd.func43, Tryd.ntmps43
  go_wp2
  go_ret
  refine ⟨w.heap.size + 1, rfl, ⟨w.heap.size, 0, [], .slice none 0 0, ⟨?_, ?_, ⟨by omega, by simp⟩, ⟨by omega, by simp; omega⟩, Queue.nil, trivial, by simp, ⟨by simp, by simp⟩, by simp⟩⟩, ((Below.refl _ _).alloc (Nat.le_refl _) _).alloc (by simp) _⟩
  · have := heap_alloc_new (w.alloc (.map #[] 0)) (.cells #[.map (some w.heap.size), .int .i64 (max 0 room), .int .i64 0, .slice none 0 0] 154)
    rw [World.size_alloc] at this
    exact this
  · exact (Below.heap_alloc _ _ _ (by simp)).trans (heap_alloc_new w _)

/-- A store that a law holds: its blocks are B's and later ones. -/
structure SW (B : Nat) (W : World) (F : Foot) (sb : Nat) (room : Int) (bad : List Int) (c : SObjs) : Prop where
  st : StoreAt W F sb room bad c
  env : Env B W
  fb : ∀ k, F k → B ≤ k
  fin : ∀ k, F k → k < W.heap.size
  ok : StOk room c
section
variable {B sb : Nat} {W W' : World} {F G : Foot} {room : Int} {bad : List Int} {c : SObjs}
theorem SW.below (h : SW B W F sb room bad c) (hb : Below W.heap.size W W') : SW B W' F sb room bad c :=
  ⟨h.st.below hb, h.env.step (hb.mono h.env.le), h.fb, fun k hk => Nat.lt_of_lt_of_le (h.fin k hk) hb.size, h.ok⟩
theorem SW.keeps {S : Foot} (h : SW B W F sb room bad c) (hk : Keeps S W W') (ha : Apart F S) (hS : ∀ k, S k → B ≤ k) : SW B W' F sb room bad c :=
  ⟨h.st.keeps hk ha, h.env.step (hk.below_at h.env.le hS), h.fb, fun k hk' => Nat.lt_of_lt_of_le (h.fin k hk') hk.size, h.ok⟩
theorem SW.belowB (h : SW B W F sb room bad c) (hk : Keeps F W W') : Below B W W' := hk.below_at h.env.le h.fb
theorem SW.grow {bad' : List Int} {c' : SObjs} (h : SW B W F sb room bad c) (hk : Keeps F W W') (h2 : StoreAt W' (Grow F W W') sb room bad' c') (ok : StOk room c') : SW B W' (Grow F W W') sb room bad' c' :=
  ⟨h2, h.env.step (h.belowB hk), fun k hk' => by
    rcases hk' with h1 | h1
    · exact h.fb k h1
    · have := h.env.le; omega, fun k hk' => by
    rcases hk' with h1 | h1
    · have := h.fin k h1; have := hk.size; omega
    · exact h1.2, ok⟩
end
theorem tot_putC (s : ByteArray) (b : List Int) (room : Int) (c : SObjs) : osum List.length (putC s b room c) ≤ osum List.length c + b.length := by
  unfold putC
  split
  · have := osum_put (f := List.length) s b c; omega
  · omega
theorem tot_doC (n : Int) (c c' : SObjs) (m : Nat) (h1 : osum List.length c ≤ m) (h2 : osum List.length c' ≤ m) : osum List.length (doC n c c') ≤ m := by
  unfold doC; split <;> assumption

def SDone (B : Nat) (w : World) (F : Foot) (sb : Nat) (room : Int) (bad : List Int) (c : SObjs) (v : Value) (en : Ending) (w' : World) : Prop :=
  en = .returned v ∧ SW B w' (Grow F w w') sb room bad c ∧ Keeps F w w'

theorem sPut (B sb : Nat) (s : ByteArray) (A : Option Addr) (n cp : Nat) (b : List Int) (w : World) (F G : Foot) (room : Int) (bad : List Int) (c : SObjs) (h : SW B w F sb room bad c) (hs : s.size ≤ 35184372088832)
    (hb : RS (kInt .u8) w G A n b) (hap : Apart G F) (hn : n ≤ 1000000000000) (ht : osum List.length c + n ≤ 1000000000000000) :
    Calls Tryd.prog 97 #[.pointer (some ⟨sb, 0, none⟩), .string s, .slice A n cp] w (SDone B w F sb room bad.tail (doC (how bad) c (putC s b room c)) (.int .i64 (toldE (how bad) (putErr s b room c)))) := by
  refine (Put_any B sb s A n cp b w F G room bad c h.st h.ok hs h.env h.fb hb hap hn).mono ?_
  rintro e w' ⟨rfl, h1, h2⟩
  have := tot_putC s b room c
  rw [hb.length] at this
  exact ⟨rfl, h.grow h2 h1 ⟨h.ok.r0, h.ok.r1, tot_doC _ _ _ _ (by omega) (by omega)⟩, h2⟩
def SDoneGet (B : Nat) (w : World) (F : Foot) (sb : Nat) (room : Int) (bad : List Int) (c : SObjs) (b : List Int) (err : Int) (en : Ending) (w' : World) : Prop :=
  ∃ (A : Option Addr) (cp : Nat), en = .returned (.tuple #[.slice A b.length cp, .int .i64 err]) ∧ RS (kInt .u8) w' (New w w') A b.length b ∧ SW B w' F sb room bad c ∧ Keeps F w w'
theorem sGet (B sb : Nat) (s : ByteArray) (w : World) (F : Foot) (room : Int) (bad : List Int) (c : SObjs) (h : SW B w F sb room bad c) (hs : s.size ≤ 35184372088832) :
    Calls Tryd.prog 98 #[.pointer (some ⟨sb, 0, none⟩), .string s] w (SDoneGet B w F sb room bad.tail c (getB (how bad) s c) (getE (how bad) s c)) := by
  refine (Get_any B sb s w F room bad c h.st hs h.env h.fb).mono ?_
  rintro e w' ⟨u, rfl, ⟨A, cp, rfl, _, _, hr⟩, h1, h2⟩
  exact ⟨A, cp, rfl, hr, ⟨h1, h.env.step (h.belowB h2), h.fb, fun k hk => Nat.lt_of_lt_of_le (h.fin k hk) h2.size, h.ok⟩, h2⟩
theorem sNew (B : Nat) (room : Int) (w : World) (hE : Env B w) (h0 : -9223372036854775808 ≤ room) (h1 : room ≤ 9223372036854775807) :
    Calls Tryd.prog 43 #[.int .i64 room] w fun e w' => ∃ sb, e = .returned (.pointer (some ⟨sb, 0, none⟩)) ∧ SW B w' (New w w') sb (max 0 room) [] [] ∧ Below w.heap.size w w' := by
  refine (SNew_any room w h0 h1).mono ?_
  rintro e w' ⟨sb, rfl, h2, h3⟩
  exact ⟨sb, rfl, ⟨h2, hE.step (h3.mono hE.le), fun k hk => by have := hE.le; have := hk.1; omega, fun k hk => hk.2, ⟨by omega, by omega, by simp [osum]⟩⟩, h3⟩

theorem SW.lit {B sb : Nat} {W : World} {F : Foot} {room : Int} {bad : List Int} {c : SObjs} (h : SW B W F sb room bad c) (o : Obj) : SW B (W.alloc o) F sb room bad c ∧ Apart (fun j => j = W.heap.size) F :=
  ⟨h.below ((Below.refl _ _).alloc (Nat.le_refl _) _), fun k hk hF => by have := h.fin k hF; omega⟩
theorem toldE_1 (e : Int) : toldE 1 e = 9 := rfl
theorem how_nil : how [] = 0 := rfl
theorem toldE_0 (e : Int) : toldE 0 e = e := by unfold toldE; simp
theorem doC_0 (c c' : SObjs) : doC 0 c c' = c' := by unfold doC; simp
theorem doC_1 (c c' : SObjs) : doC 1 c c' = c := rfl

end Go.Proofs.YtfjndjbpgcggkaaDoor
