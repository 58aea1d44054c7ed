/- The store's calls, for the laws; the example of the document. -/
import Derived.Test.YtngmipppgnlkdaaDoorDS8
import Derived.Laws.BytesArg
import Derived.Lib.SlBytesConst
set_option linter.unusedVariables false
set_option linter.unusedSimpArgs false
namespace Go.Proofs.YtngmipppgnlkdaaDoor
open Go.RowKit

theorem RS.str {P : Program} {W : World} {F : Foot} {A : Option Addr} {n : Nat} {xs : List Int} (h : RS (kInt .u8) W F A n xs) (src dst e c : Nat) (hs : P.underlying src = some (.slice e)) (he : P.underlying e = some (.int .u8)) (hd : P.underlying dst = some .string) :
    (convert src dst (.slice A n c)).run P W = .ok (.string (strOfNums xs)) W := by
  cases A with
  | none =>
    have h0 : n = 0 := by
      rcases Nat.eq_zero_or_pos n with h0 | h0
      · exact h0
      · obtain ⟨ad, h, _⟩ := h.lt h0
        cases h
    subst h0
    obtain rfl : xs = [] := List.eq_nil_of_length_eq_zero h.1
    exact run_convert_bytes_nil W src e hs he 0 c dst hd
  | some ad =>
    have hl : (loadCells ad n).run P W = .ok (xs.map (Value.int .u8)).toArray W := by
      have := run_loadCells_list (P := P) W ad (xs.map (Value.int .u8)) (fun j v hj => by
        rw [List.getElem?_map] at hj
        obtain ⟨x, hx, rfl⟩ := Option.map_eq_some_iff.1 hj
        obtain ⟨ad', hA0, hFa, k0⟩ := at_int h hx
        injection hA0 with hA0
        subst hA0
        exact k0)
      simpa [h.1] using this
    rw [run_convert_bytes_string W src dst e _ n c hs he hd, run_bytesToString W _ n c xs hl, foldl_push_bytes]
    simp [strOfNums, ByteArray.empty, ByteArray.emptyWithCapacity]
    rfl

/-- A store that a law holds: its blocks are B's and later ones. -/
structure SW (B : Nat) (W : World) (F : Foot) (sb : Nat) (room : Int) (bad : List Int) (c : Objs) : Prop where
  st : StoreAt W F sb room bad c
  env : Env B W
  fb : ∀ k, F k → B ≤ k
  fin : ∀ k, F k → k < W.heap.size
  ok : StOk room c
section
variable {B sb : Nat} {W W' : World} {F G : Foot} {room : Int} {bad : List Int} {c : Objs}
theorem SW.below (h : SW B W F sb room bad c) (hb : Below W.heap.size W W') : SW B W' F sb room bad c :=
  ⟨h.st.below hb, h.env.step (hb.mono h.env.le), h.fb, fun k hk => Nat.lt_of_lt_of_le (h.fin k hk) hb.size, h.ok⟩
theorem SW.keeps {S : Foot} (h : SW B W F sb room bad c) (hk : Keeps S W W') (ha : Apart F S) (hS : ∀ k, S k → B ≤ k) : SW B W' F sb room bad c :=
  ⟨h.st.keeps hk ha, h.env.step (hk.below_at h.env.le hS), h.fb, fun k hk' => Nat.lt_of_lt_of_le (h.fin k hk') hk.size, h.ok⟩
theorem SW.belowB (h : SW B W F sb room bad c) (hk : Keeps F W W') : Below B W W' := hk.below_at h.env.le h.fb
theorem SW.grow {bad' : List Int} {c' : Objs} (h : SW B W F sb room bad c) (hk : Keeps F W W') (h2 : StoreAt W' (Grow F W W') sb room bad' c') (ok : StOk room c') : SW B W' (Grow F W W') sb room bad' c' :=
  ⟨h2, h.env.step (h.belowB hk), fun k hk' => by
    rcases hk' with h1 | h1
    · exact h.fb k h1
    · have := h.env.le; omega, fun k hk' => by
    rcases hk' with h1 | h1
    · have := h.fin k h1; have := hk.size; omega
    · exact h1.2, ok⟩
end
theorem tot_putC (s : ByteArray) (b : List Int) (room : Int) (c : Objs) : tot (putC s b room c) ≤ tot c + b.length := by
  unfold putC
  split
  · have := tot_put s b c; omega
  · omega
theorem tot_dropC (s : ByteArray) (c : Objs) : tot (dropC s c) ≤ tot c := by
  unfold dropC
  split
  · rename_i h
    cases hl : look s c with
    | none => exfalso; unfold found at h; split at h
              · cases h
              · rw [hl] at h; cases h
    | some b => have := tot_del s b c hl; omega
  · omega
theorem tot_doC (n : Int) (c c' : Objs) (m : Nat) (h1 : tot c ≤ m) (h2 : tot c' ≤ m) : tot (doC n c c') ≤ m := by
  unfold doC; split <;> assumption

def Done (B : Nat) (w : World) (F : Foot) (sb : Nat) (room : Int) (bad : List Int) (c : Objs) (v : Value) (en : Ending) (w' : World) : Prop :=
  en = .returned v ∧ SW B w' (Grow F w w') sb room bad c ∧ Keeps F w w'

theorem sPut (B sb : Nat) (s : ByteArray) (A : Option Addr) (n cp : Nat) (b : List Int) (w : World) (F G : Foot) (room : Int) (bad : List Int) (c : Objs) (h : SW B w F sb room bad c) (hs : s.size ≤ 35184372088832)
    (hb : RS (kInt .u8) w G A n b) (hap : Apart G F) (hn : n ≤ 1000000000000) (ht : tot c + n ≤ 1000000000000000) :
    Calls Tryd.prog 10 #[.pointer (some ⟨sb, 0, none⟩), .string s, .slice A n cp] w (Done B w F sb room bad.tail (doC (how bad) c (putC s b room c)) (.int .i64 (toldE (how bad) (putErr s b room c)))) := by
  refine (Put_any B sb s A n cp b w F G room bad c h.st h.ok hs h.env h.fb hb hap hn).mono ?_
  rintro e w' ⟨rfl, h1, h2⟩
  have := tot_putC s b room c
  rw [hb.length] at this
  exact ⟨rfl, h.grow h2 h1 ⟨h.ok.r0, h.ok.r1, tot_doC _ _ _ _ (by omega) (by omega)⟩, h2⟩
theorem sDelete (B sb : Nat) (s : ByteArray) (w : World) (F : Foot) (room : Int) (bad : List Int) (c : Objs) (h : SW B w F sb room bad c) (hs : s.size ≤ 35184372088832) :
    Calls Tryd.prog 14 #[.pointer (some ⟨sb, 0, none⟩), .string s] w (Done B w F sb room bad.tail (doC (how bad) c (dropC s c)) (.int .i64 (toldE (how bad) (found s c).2))) := by
  refine (Delete_any B sb s w F room bad c h.st h.ok hs h.env h.fb).mono ?_
  rintro e w' ⟨rfl, h1, h2⟩
  have := tot_dropC s c
  have := h.ok.t1
  exact ⟨rfl, h.grow h2 h1 ⟨h.ok.r0, h.ok.r1, tot_doC _ _ _ _ (by omega) (by omega)⟩, h2⟩
theorem sFail (B sb : Nat) (A : Option Addr) (n cp : Nat) (xs : List Int) (w : World) (F G : Foot) (room : Int) (bad : List Int) (c : Objs) (h : SW B w F sb room bad c)
    (hr : RS (kInt .i64) w G A n xs) (hap : Apart G F) (hl : bad.length + n ≤ 1000000000000) :
    Calls Tryd.prog 13 #[.pointer (some ⟨sb, 0, none⟩), .slice A n cp] w (Done B w F sb room (bad ++ xs) c (.tuple #[])) := by
  refine (Fail_any sb A n cp xs w F G room bad c h.st hr hap hl).mono ?_
  rintro e w' ⟨rfl, h1, h2⟩
  exact ⟨rfl, h.grow h2 h1 h.ok, h2⟩
def DoneGet (B : Nat) (w : World) (F : Foot) (sb : Nat) (room : Int) (bad : List Int) (c : Objs) (b : List Int) (err : Int) (en : Ending) (w' : World) : Prop :=
  ∃ (A : Option Addr) (cp : Nat), en = .returned (.tuple #[.slice A b.length cp, .int .i64 err]) ∧ RS (kInt .u8) w' (New w w') A b.length b ∧ SW B w' F sb room bad c ∧ Keeps F w w'
theorem sGet (B sb : Nat) (s : ByteArray) (w : World) (F : Foot) (room : Int) (bad : List Int) (c : Objs) (h : SW B w F sb room bad c) (hs : s.size ≤ 35184372088832) :
    Calls Tryd.prog 12 #[.pointer (some ⟨sb, 0, none⟩), .string s] w (DoneGet B w F sb room bad.tail c (getB (how bad) s c) (getE (how bad) s c)) := by
  refine (Get_any B sb s w F room bad c h.st hs h.env h.fb).mono ?_
  rintro e w' ⟨u, rfl, ⟨A, cp, rfl, _, _, hr⟩, h1, h2⟩
  exact ⟨A, cp, rfl, hr, ⟨h1, h.env.step (h.belowB h2), h.fb, fun k hk => Nat.lt_of_lt_of_le (h.fin k hk) h2.size, h.ok⟩, h2⟩
theorem sNew (B : Nat) (room : Int) (w : World) (hE : Env B w) (h0 : -9223372036854775808 ≤ room) (h1 : room ≤ 9223372036854775807) :
    Calls Tryd.prog 9 #[.int .i64 room] w fun e w' => ∃ sb, e = .returned (.pointer (some ⟨sb, 0, none⟩)) ∧ SW B w' (New w w') sb (max 0 room) [] [] ∧ Below w.heap.size w w' := by
  refine (SNew_any room w h0 h1).mono ?_
  rintro e w' ⟨sb, rfl, h2, h3⟩
  exact ⟨sb, rfl, ⟨h2, hE.step (h3.mono hE.le), fun k hk => by have := hE.le; have := hk.1; omega, fun k hk => hk.2, ⟨by omega, by omega, by simp [tot]⟩⟩, h3⟩

theorem valid_a : validName ⟨#[97]⟩ = true := by decide +kernel
theorem valid_b : validName ⟨#[98]⟩ = true := by decide +kernel
theorem valid_c : validName ⟨#[99]⟩ = true := by decide +kernel
theorem valid_o : validName ⟨#[111]⟩ = true := by decide +kernel

theorem lit1 (k : IntKind) (T : TypeId) (W : World) (x : Int) : RS (kInt k) (W.alloc (.cells #[.int k x] T)) (fun j => j = W.heap.size) (some ⟨W.heap.size, 0, none⟩) 1 [x] :=
  (RS.lit W (F := NoF) (xs := [x]) (Elems.single (K := kInt k) rfl)).mono fun j hj => hj.resolve_left id
theorem lit1m (k : IntKind) (T : TypeId) (W : World) (x : Int) (fr : Nat × Nat) : RS (kInt k) (W.alloc (.cells #[.int k x] T fr)) (fun j => j = W.heap.size) (some ⟨W.heap.size, 0, none⟩) 1 [x] :=
  ⟨rfl, [.int k x], Elems.single (K := kInt k) rfl, fun _ => ⟨_, rfl, rfl, World.news_of_block (heap_alloc_new W _)⟩⟩
theorem SW.lit {B sb : Nat} {W : World} {F : Foot} {room : Int} {bad : List Int} {c : Objs} (h : SW B W F sb room bad c) (o : Obj) : SW B (W.alloc o) F sb room bad c ∧ Apart (fun j => j = W.heap.size) F :=
  ⟨h.below ((Below.refl _ _).alloc (Nat.le_refl _) _), fun k hk hF => by have := h.fin k hF; omega⟩
theorem toldE_1 (e : Int) : toldE 1 e = 9 := rfl
theorem how_nil : how [] = 0 := rfl
theorem toldE_0 (e : Int) : toldE 0 e = e := by unfold toldE; simp
theorem doC_0 (c c' : Objs) : doC 0 c c' = c' := by unfold doC; simp
theorem doC_1 (c c' : Objs) : doC 1 c c' = c := rfl

set_option maxHeartbeats 4000000 in
set_option maxRecDepth 100000 in
theorem salive_any (w : World) (hT : TabsBelow w.heap.size w) : Calls Tryd.prog 8 #[] w fun e w' => e = .returned (.bool true) ∧ Below w.heap.size w w' := by
  have kc := fun (w : World) (C : Array Value) (n c : Nat) => Lib.run_convert_bytes_const (P := Tryd.prog) w 30 5 C n c Tryd.underlying30 Tryd.underlying5
  have hE : Env w.heap.size w := ⟨hT, Nat.le_refl _⟩
  obtain ⟨B, hB⟩ : ∃ B, Hid (w.heap.size = B) := ⟨_, rfl⟩
  rw [hB.out] at hE ⊢
  clear hT
  go_enter Tryd.func8, Tryd.ntmps8
  go_wp2_with fail
  refine (sNew B 10 w hE (by omega) (by omega)).mono ?_
  rintro e w1 ⟨sb, rfl, h1, hb1⟩
  have hb1 := hb1.mono (Nat.le_of_eq hB.out.symm)
  generalize New w w1 = F1 at h1
  go_wp2_with fail
  have hr := lit1 .i64 3 w1 1
  obtain ⟨h2, ha⟩ := h1.lit (.cells #[.int .i64 1] 3)
  have hb2 : Below B w (w1.alloc (.cells #[.int .i64 1] 3)) := hb1.alloc (by have := h1.env.le; omega) _
  clear hb1
  generalize w1.alloc (.cells #[.int .i64 1] 3) = w2 at h2 hr hb2 ⊢
  refine (sFail B sb _ 1 1 [1] w2 F1 _ _ _ _ h2 hr ha (by simp)).mono ?_
  rintro e w3 ⟨rfl, h3, hk3⟩
  have hb3 := hb2.trans (h2.belowB hk3)
  generalize Grow F1 w2 w3 = F3 at h3
  clear hk3 h2 hb2 hr ha
  go_wp2_with fail
  have hr := lit1m .u8 5 w3 120 (1, 2)
  obtain ⟨h4, ha⟩ := h3.lit (.cells #[.int .u8 120] 5 (1, 2))
  have hb4 : Below B w (w3.alloc (.cells #[.int .u8 120] 5 (1, 2))) := hb3.alloc (by have := h3.env.le; omega) _
  generalize w3.alloc (.cells #[.int .u8 120] 5 (1, 2)) = w4 at h4 hr hb4 ⊢
  refine (sPut B sb ⟨#[97]⟩ _ 1 1 [120] w4 F3 _ _ _ _ h4 (by decide) hr ha (by omega) (by simp [tot])).mono ?_
  rintro e w5 ⟨rfl, h5, hk5⟩
  have hb5 := hb4.trans (h4.belowB hk5)
  generalize Grow F3 w4 w5 = F5 at h5
  clear hk5 h4 hb4 hr ha
  have h5 : SW B w5 F5 sb (max 0 10) [] [] := h5
  rw [show toldE (how ([] ++ [1])) (putErr ⟨#[97]⟩ [120] (max 0 10) []) = 9 from rfl]
  go_wp2_with fail
  have hr := lit1m .u8 5 w5 121 (1, 2)
  obtain ⟨h6, ha⟩ := h5.lit (.cells #[.int .u8 121] 5 (1, 2))
  have hb6 : Below B w (w5.alloc (.cells #[.int .u8 121] 5 (1, 2))) := hb5.alloc (by have := h5.env.le; omega) _
  generalize w5.alloc (.cells #[.int .u8 121] 5 (1, 2)) = w6 at h6 hr hb6 ⊢
  refine (sPut B sb ⟨#[97]⟩ _ 1 1 [121] w6 F5 _ _ _ _ h6 (by decide) hr ha (by omega) (by simp [tot])).mono ?_
  rintro e w7 ⟨rfl, h7, hk7⟩
  have hb7 := hb6.trans (h6.belowB hk7)
  generalize Grow F5 w6 w7 = F7 at h7
  clear hk7 h6 hb6 hr ha
  have he : putErr ⟨#[97]⟩ [121] (max 0 10) [] = 0 := by unfold putErr; rw [valid_a]; rfl
  have hc : putC ⟨#[97]⟩ [121] (max 0 10) [] = [(⟨#[97]⟩, [121])] := by unfold putC; rw [he]; rfl
  rw [how_nil, doC_0, hc] at h7
  rw [how_nil, toldE_0, he]
  clear he hc
  go_wp2_with fail
  refine (sGet B sb ⟨#[97]⟩ w7 F7 _ _ _ h7 (by decide)).mono ?_
  rintro e w8 ⟨A8, c8, rfl, hr8, h8, hk8⟩
  have hb8 := hb7.trans (h7.belowB hk8)
  have hf : found ⟨#[97]⟩ [(⟨#[97]⟩, [121])] = ([121], 0) := by unfold found; rw [valid_a]; rfl
  have hge : getE 0 ⟨#[97]⟩ [(⟨#[97]⟩, [121])] = 0 := by unfold getE; rw [hf]; rfl
  have hgb : getB 0 ⟨#[97]⟩ [(⟨#[97]⟩, [121])] = [121] := by unfold getB; rw [hge, hf]; rfl
  have hgl : (getB 0 ⟨#[97]⟩ [(⟨#[97]⟩, [121])]).length = 1 := by rw [hgb]; rfl
  simp only [List.tail, how_nil] at hr8 ⊢
  rw [hgl, hgb] at hr8
  rw [hgl, hge]
  clear hf hge hgb hgl hk8 h7 h5 h3 h1
  have hstr := hr8.str (P := Tryd.prog) 30 9 5 c8 Tryd.underlying30 Tryd.underlying5 Tryd.underlying9
  rw [show strOfNums [121] = ⟨#[121]⟩ from rfl] at hstr
  go_wp2
  go_ret
  exact ⟨rfl, hb8⟩
end Go.Proofs.YtngmipppgnlkdaaDoor
