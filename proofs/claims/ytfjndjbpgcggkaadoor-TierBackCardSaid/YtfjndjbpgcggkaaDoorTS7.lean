/- store.Put, Get, Delete, Fail: contracts. -/
import Derived.Test.YtfjndjbpgcggkaaDoorTS6
set_option linter.unusedVariables false
set_option linter.unusedSimpArgs false
namespace Go.Proofs.YtfjndjbpgcggkaaDoor
open Go.RowKit

theorem hmf : ∀ (fn : Fn) (first cap : Array Value) (w : World), (Instr.makeFunc fn first cap).run Tryd.prog w = .ok (.func fn first cap) w := fun _ _ _ _ => rfl
def toldE (n err : Int) : Int := if n ≠ 0 ∧ n ≠ 2 then 9 else if err = 0 ∧ n = 2 then 9 else err
def doC (n : Int) (c c' : SObjs) : SObjs := if n ≠ 0 ∧ n ≠ 2 then c else c'

/-- The tables stand, and will stand whatever happens from block B on. -/
def OpPost (w : World) (F : Foot) (sb : Nat) (room : Int) (bad : List Int) (c : SObjs) (err : Int) (en : Ending) (w' : World) : Prop :=
  en = .returned (.int .i64 err) ∧ StoreAt w' (Grow F w w') sb room bad c ∧ Keeps F w w'


/-- What a thing that is done hands back no data: the pair of nil and an error. -/
def NoData (F : Foot) (sb : Nat) (room : Int) (bad : List Int) (c' : SObjs) (E : Int) (w1 : World) (v : Value) (err : Int) (w2 : World) : Prop :=
  v = .nilIface ∧ err = E ∧ StoreAt w2 (Grow F w1 w2) sb room bad c' ∧ Keeps F w1 w2
theorem CallPost.noData {w w' : World} {F : Foot} {sb : Nat} {room : Int} {bad : List Int} {c c' : SObjs} {E : Int} {en : Ending} (h : CallPost w F sb room bad c (NoData F sb room bad.tail c' E) en w') :
    en = .returned (.tuple #[.nilIface, .int .i64 (toldE (how bad) E)]) ∧ StoreAt w' (Grow F w w') sb room bad.tail (doC (how bad) c c') ∧ Keeps F w w' := by
  unfold CallPost at h
  unfold toldE doC
  by_cases hs : how bad ≠ 0 ∧ how bad ≠ 2
  · rw [if_pos hs] at h ⊢
    rw [if_pos hs]
    exact ⟨h.1, h.2.1.mono fun _ hk => .inl hk, h.2.2⟩
  · rw [if_neg hs] at h ⊢
    rw [if_neg hs]
    obtain ⟨w1, v, err, h1, h2, h3, ⟨rfl, rfl, h4, h5⟩, he⟩ := h
    refine ⟨?_, h4.mono fun k hk => hk.imp id fun hk => ⟨by omega, hk.2⟩, h2.trans h5⟩
    rw [he]
    split <;> rfl

set_option maxHeartbeats 2000000 in
theorem PutF (sb p q r : Nat) (s : ByteArray) (A : Option Addr) (n cp : Nat) (b : List Int) (w : World) (F G : Foot) (room : Int) (bad : List Int) (c : SObjs) (h : StoreAt w F sb room bad c) (ok : StOk room c) (hs : s.size ≤ 35184372088832)
    (hT : TabsBelow w.heap.size w) (hb : RS (kInt .u8) w G A n b) (hap : Apart G F) (hn : n ≤ 1000000000000)
    (hp : w.cell? ⟨p, 0, none⟩ = some (.pointer (some ⟨sb, 0, none⟩))) (hq : w.cell? ⟨q, 0, none⟩ = some (.string s)) (hr : w.cell? ⟨r, 0, none⟩ = some (.slice A n cp)) :
    Calls Tryd.prog 138 (#[] ++ #[.pointer (some ⟨p, 0, none⟩), .pointer (some ⟨q, 0, none⟩), .pointer (some ⟨r, 0, none⟩)]) w fun en w2 => ∃ v err, en = .returned (.tuple #[v, .int .i64 err]) ∧ NoData F sb room bad (putC s b room c) (putErr s b room c) w v err w2 := by
  have HP := Lib.hid (put_any sb s A n cp b w F G room bad c h ok hs hT hb hap hn)
  clear hT h hb
  show Calls Tryd.prog 138 #[.pointer (some ⟨p, 0, none⟩), .pointer (some ⟨q, 0, none⟩), .pointer (some ⟨r, 0, none⟩)] w _
  go_enter Tryd.func138, Tryd.ntmps138
  go_wp2_with fail
  refine HP.out.mono ?_
  rintro e w1 ⟨rfl, h1, h2⟩
  have HH := Lib.hid (And.intro h1 h2)
  clear h1 h2
  go_wp2
  go_ret2
  exact ⟨_, _, rfl, rfl, rfl, HH.out⟩

set_option maxHeartbeats 2000000 in
set_option maxRecDepth 100000 in
theorem Put_any (B sb : Nat) (s : ByteArray) (A : Option Addr) (n cp : Nat) (b : List Int) (w : World) (F G : Foot) (room : Int) (bad : List Int) (c : SObjs) (h : StoreAt w F sb room bad c) (ok : StOk room c) (hs : s.size ≤ 35184372088832)
    (hE : Env B w) (hFB : ∀ k, F k → B ≤ k) (hb : RS (kInt .u8) w G A n b) (hap : Apart G F) (hn : n ≤ 1000000000000) :
    Calls Tryd.prog 97 #[.pointer (some ⟨sb, 0, none⟩), .string s, .slice A n cp] w (OpPost w F sb room bad.tail (doC (how bad) c (putC s b room c)) (toldE (how bad) (putErr s b room c))) := by
  have hm1 := hmf
  have H := Lib.hid (And.intro h.bound (And.intro hE hb))
  clear h hE hb
  go_enter Tryd.func97, Tryd.ntmps97
  go_wp2_with fail
  obtain ⟨h, hE, hb⟩ := H.out
  have hbl3 : Below w.heap.size w (((w.alloc (.cells #[.pointer (some ⟨sb, 0, none⟩)] 81)).alloc (.cells #[.string s] 9)).alloc (.cells #[.slice A n cp] 26)) := (((Below.refl _ _).alloc (Nat.le_refl _) _).alloc (by simp) _).alloc (by simp; omega) _
  have hp3 : (((w.alloc (.cells #[.pointer (some ⟨sb, 0, none⟩)] 81)).alloc (.cells #[.string s] 9)).alloc (.cells #[.slice A n cp] 26)).cell? ⟨w.heap.size, 0, none⟩ = some (.pointer (some ⟨sb, 0, none⟩)) := by go_simp
  have hq3 : (((w.alloc (.cells #[.pointer (some ⟨sb, 0, none⟩)] 81)).alloc (.cells #[.string s] 9)).alloc (.cells #[.slice A n cp] 26)).cell? ⟨w.heap.size + 1, 0, none⟩ = some (.string s) := by go_simp
  have hr3 : (((w.alloc (.cells #[.pointer (some ⟨sb, 0, none⟩)] 81)).alloc (.cells #[.string s] 9)).alloc (.cells #[.slice A n cp] 26)).cell? ⟨w.heap.size + 1 + 1, 0, none⟩ = some (.slice A n cp) := by go_simp
  have hE3 := hE.step (hbl3.mono hE.le)
  have hs3 := hbl3.size
  generalize ((w.alloc (.cells #[.pointer (some ⟨sb, 0, none⟩)] 81)).alloc (.cells #[.string s] 9)).alloc (.cells #[.slice A n cp] 26) = w3 at hbl3 hp3 hq3 hr3 hE3 hs3 ⊢
  refine (call_any 138 #[] #[.pointer (some ⟨w.heap.size, 0, none⟩), .pointer (some ⟨w.heap.size + 1, 0, none⟩), .pointer (some ⟨w.heap.size + 1 + 1, 0, none⟩)] (fun _ => by kernel_rfl) (NoData (fun k => F k ∧ k < w.heap.size) sb room bad.tail (putC s b room c) (putErr s b room c)) sb w3 (fun k => F k ∧ k < w.heap.size) room bad c (h.below hbl3) (fun w4 h4 hk4 hz4 => ?_)).mono ?_
  · have hb4 := hk4.below_at hE3.le (fun k hk => hFB k hk.1)
    exact PutF sb _ _ _ s A n cp b w4 _ (fun k => G k ∧ k < w.heap.size) room bad.tail c h4 ok hs (hE3.step hb4).now
      (((hb.bound).below hbl3).keeps hk4 (fun k h1 h2 => hap k h1.1 h2.1)) (fun k h1 h2 => hap k h1.1 h2.1) hn
      (hk4.cell hp3 (fun hk => by have := hk.2; simp only at this; omega)) (hk4.cell hq3 (fun hk => by have := hk.2; simp only at this; omega)) (hk4.cell hr3 (fun hk => by have := hk.2; simp only at this; omega))
  · intro e w5 hc
    obtain ⟨rfl, h5, hk5⟩ := hc.noData
    have HH := Lib.hid (And.intro h5 hk5)
    clear h5 hk5 hc
    go_wp2
    go_ret
    obtain ⟨h5, hk5⟩ := HH.out
    exact ⟨rfl, h5.mono fun k hk => hk.imp And.left fun hk => ⟨by omega, hk.2⟩, (Keeps.of_below hbl3 F).trans (hk5.mono fun k _ hk => hk.1)⟩

set_option maxHeartbeats 2000000 in
set_option maxHeartbeats 2000000 in
set_option maxRecDepth 100000 in
/-- What Get's closure hands back: a copy. -/
def GotData (b : List Int) (E : Int) (w1 : World) (v : Value) (err : Int) (w2 : World) : Prop :=
  ∃ u, v = .iface 199 u ∧ err = E ∧ RV w2 (New w1 w2) u b ∧ Below w1.heap.size w1 w2
def GetPost (w : World) (F : Foot) (sb : Nat) (room : Int) (bad : List Int) (c : SObjs) (b : List Int) (err : Int) (en : Ending) (w' : World) : Prop :=
  ∃ u, en = .returned (.tuple #[u, .int .i64 err]) ∧ RV w' (New w w') u b ∧ StoreAt w' F sb room bad c ∧ Keeps F w w'

set_option maxHeartbeats 2000000 in
theorem GetF (sb p q : Nat) (s : ByteArray) (w : World) (F : Foot) (room : Int) (bad : List Int) (c : SObjs) (h : StoreAt w F sb room bad c) (hs : s.size ≤ 35184372088832)
    (hT : TabsBelow w.heap.size w) (hp : w.cell? ⟨p, 0, none⟩ = some (.pointer (some ⟨sb, 0, none⟩))) (hq : w.cell? ⟨q, 0, none⟩ = some (.string s)) :
    Calls Tryd.prog 140 (#[] ++ #[.pointer (some ⟨p, 0, none⟩), .pointer (some ⟨q, 0, none⟩)]) w fun en w2 => ∃ v err, en = .returned (.tuple #[v, .int .i64 err]) ∧ GotData (found s c).1 (found s c).2 w v err w2 := by
  have HP := Lib.hid (found_any sb s w F room bad c h hs hT)
  clear hT h
  show Calls Tryd.prog 140 #[.pointer (some ⟨p, 0, none⟩), .pointer (some ⟨q, 0, none⟩)] w _
  go_enter Tryd.func140, Tryd.ntmps140
  go_wp2_with fail
  refine HP.out.mono ?_
  rintro e w1 ⟨u, rfl, h1, h2⟩
  have HH := Lib.hid (And.intro h1 h2)
  clear h1 h2
  go_wp2
  go_ret2
  exact ⟨_, _, rfl, u, rfl, rfl, HH.out⟩
theorem ta_iface (u : Value) (w : World) : (Instr.typeAssert (.iface 199 u) 20 199 true).run Tryd.prog w = .ok (.tuple #[u, .bool true]) w := by kernel_rfl
theorem ta_nil (w : World) : (Instr.typeAssert .nilIface 20 199 true).run Tryd.prog w = .ok (.tuple #[.slice none 0 0, .bool false]) w := by kernel_rfl
end Go.Proofs.YtfjndjbpgcggkaaDoor
