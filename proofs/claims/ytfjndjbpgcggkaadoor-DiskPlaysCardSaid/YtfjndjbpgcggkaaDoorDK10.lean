/- The disk's calls, for the laws; the example of the document. -/
import Derived.Test.YtfjndjbpgcggkaaDoorDK9
import Derived.Laws.BytesArg
import Derived.Lib.SlBytesConst
set_option linter.unusedVariables false
set_option linter.unusedSimpArgs false
namespace Go.Proofs.YtfjndjbpgcggkaaDoor
open Go.RowKit

structure Env (B : Nat) (w : World) : Prop where
  tabs : TabsBelow B w
  le : B ≤ w.heap.size
theorem Env.now {B : Nat} {w : World} (h : Env B w) : TabsBelow w.heap.size w := fun w' hw => h.tabs w' (hw.mono h.le)
theorem Env.step {B : Nat} {w w' : World} (h : Env B w) (hb : Below B w w') : Env B w' := ⟨fun w2 h2 => h.tabs w2 (hb.trans h2), Nat.le_trans h.le hb.size⟩
theorem Keeps.below_at {S : Foot} {B : Nat} {w w' : World} (h : Keeps S w w') (hB : B ≤ w.heap.size) (hs : ∀ k, S k → B ≤ k) : Below B w w' :=
  ⟨h.os, h.tape, h.output, h.size, fun k hk => h.block k (by omega) (fun hS => by have := hs k hS; omega)⟩

theorem RS.str {P : Program} {W : World} {F : Foot} {A : Option Addr} {n : Nat} {xs : List Int} (h : RS (kInt .u8) W F A n xs) (src dst e c : Nat) (hs : P.underlying src = some (.slice e)) (he : P.underlying e = some (.int .u8)) (hd : P.underlying dst = some .string) :
    (convert src dst (.slice A n c)).run P W = .ok (.string (strOfNums xs)) W := by
  cases A with
  | none =>
    have h0 : n = 0 := by
      rcases Nat.eq_zero_or_pos n with h0 | h0
      · exact h0
      · obtain ⟨ad, h, _⟩ := h.lt h0
        cases h
    subst h0
    obtain rfl : xs = [] := List.eq_nil_of_length_eq_zero h.1
    exact run_convert_bytes_nil W src e hs he 0 c dst hd
  | some ad =>
    have hl : (loadCells ad n).run P W = .ok (xs.map (Value.int .u8)).toArray W := by
      have := run_loadCells_list (P := P) W ad (xs.map (Value.int .u8)) (fun j v hj => by
        rw [List.getElem?_map] at hj
        obtain ⟨x, hx, rfl⟩ := Option.map_eq_some_iff.1 hj
        obtain ⟨ad', hA0, hFa, k0⟩ := at_int h hx
        injection hA0 with hA0
        subst hA0
        exact k0)
      simpa [h.1] using this
    rw [run_convert_bytes_string W src dst e _ n c hs he hd, run_bytesToString W _ n c xs hl, foldl_push_bytes]
    simp [strOfNums, ByteArray.empty, ByteArray.emptyWithCapacity]
    rfl

/-- A disk that a law holds: its blocks are B's and later ones. -/
structure DW (B : Nat) (W : World) (F : Foot) (db : Nat) (room : Int) (c : FObjs) : Prop where
  at_ : DiskAt W F db room c
  env : Env B W
  fb : ∀ k, F k → B ≤ k
  fin : ∀ k, F k → k < W.heap.size
  ok : DOk room c
section
variable {B db : Nat} {W W' : World} {F G : Foot} {room : Int} {c : FObjs}
theorem DW.below (h : DW B W F db room c) (hb : Below W.heap.size W W') : DW B W' F db room c :=
  ⟨h.at_.below hb, h.env.step (hb.mono h.env.le), h.fb, fun k hk => Nat.lt_of_lt_of_le (h.fin k hk) hb.size, h.ok⟩
theorem DW.keeps {S : Foot} (h : DW B W F db room c) (hk : Keeps S W W') (ha : Apart F S) (hS : ∀ k, S k → B ≤ k) : DW B W' F db room c :=
  ⟨h.at_.keeps hk ha, h.env.step (hk.below_at h.env.le hS), h.fb, fun k hk' => Nat.lt_of_lt_of_le (h.fin k hk') hk.size, h.ok⟩
theorem DW.belowB (h : DW B W F db room c) (hk : Keeps F W W') : Below B W W' := hk.below_at h.env.le h.fb
theorem DW.grow {c' : FObjs} (h : DW B W F db room c) (hk : Keeps F W W') (h2 : DiskAt W' (Grow F W W') db room c') (ok : DOk room c') : DW B W' (Grow F W W') db room c' :=
  ⟨h2, h.env.step (h.belowB hk), fun k hk' => by
    rcases hk' with h1 | h1
    · exact h.fb k h1
    · have := h.env.le; omega, fun k hk' => by
    rcases hk' with h1 | h1
    · have := h.fin k h1; have := hk.size; omega
    · exact h1.2, ok⟩
theorem DW.lit (h : DW B W F db room c) (o : Obj) : DW B (W.alloc o) F db room c ∧ Apart (fun j => j = W.heap.size) F :=
  ⟨h.below ((Below.refl _ _).alloc (Nat.le_refl _) _), fun k hk hF => by have := h.fin k hF; omega⟩
end

theorem szAt_dfound (s : ByteArray) (c : FObjs) : (dfound s c).1.1.length ≤ szAt flen s c := by
  unfold dfound szAt
  split
  · exact Nat.zero_le _
  · cases look s c with
    | none => exact Nat.zero_le _
    | some f => exact Nat.le_refl _
theorem tot_dappC (s : ByteArray) (b : List Int) (room : Int) (c : FObjs) : osum flen (dappC s b room c) ≤ osum flen c + b.length := by
  unfold dappC
  split
  · have h1 := osum_put (f := flen) s ((dfound s c).1.1 ++ b, (dfound s c).1.2 + b.length) c
    have h2 := szAt_dfound s c
    have h3 : flen ((dfound s c).1.1 ++ b, (dfound s c).1.2 + b.length) = (dfound s c).1.1.length + b.length := by
      show ((dfound s c).1.1 ++ b).length = _
      rw [List.length_append]
    omega
  · omega
theorem DOk.sub {room : Int} {c c' : FObjs} (ok : DOk room c) (h : osum flen c' ≤ osum flen c) : DOk room c' := ⟨ok.r0, ok.r1, Nat.le_trans h ok.t1⟩
theorem tot_less (s : ByteArray) (f : List Int × Nat) (c : FObjs) (h : f.1.length ≤ szAt flen s c) : osum flen (oput s f c) ≤ osum flen c := by
  have h1 := osum_put (f := flen) s f c
  have h3 : flen f = f.1.length := rfl
  omega
theorem tot_crashGo : ∀ (ss : List ByteArray) (c : FObjs) (ks : List Int), osum flen (crashGo ss c ks) ≤ osum flen c
  | [], _, _ => Nat.le_refl _
  | s :: ss, c, ks => by
    rw [crashGo_cons]
    cases hl : look s c with
    | none => exact tot_crashGo ss c ks
    | some f =>
      dsimp only
      split
      · exact tot_crashGo ss c ks
      · refine Nat.le_trans (tot_crashGo ss _ _) (tot_less s _ c ?_)
        have hsz : szAt flen s c = f.1.length := by unfold szAt; rw [hl]; rfl
        rw [hsz, List.length_take]
        omega

def Done (B : Nat) (w : World) (F : Foot) (db : Nat) (room : Int) (c : FObjs) (v : Value) (en : Ending) (w' : World) : Prop :=
  en = .returned v ∧ DW B w' (Grow F w w') db room c ∧ Keeps F w w'

theorem wApp (B db : Nat) (s : ByteArray) (A : Option Addr) (n cp : Nat) (b : List Int) (w : World) (F G : Foot) (room : Int) (c : FObjs) (h : DW B w F db room c) (hs : s.size ≤ 35184372088832)
    (hb : RS (kInt .u8) w G A n b) (hcp : n ≤ cp ∧ cp ≤ 9223372036854775807) (hap : Apart G F) (ht : osum flen c + n ≤ 1000000000000) :
    Calls Tryd.prog 14 #[.pointer (some ⟨db, 0, none⟩), .string s, .slice A n cp] w (Done B w F db room (dappC s b room c) (.int .i64 (dappE s n room c))) := by
  refine (dappend_any db s A n cp b w F G room c h.at_ h.ok hs h.env.now hb hcp hap ht).mono ?_
  rintro e w' ⟨rfl, h1, h2⟩
  have := tot_dappC s b room c
  rw [hb.length] at this
  exact ⟨rfl, h.grow h2 h1 ⟨h.ok.r0, h.ok.r1, by omega⟩, h2⟩
/-- What Sync leaves. -/
def dsyncC (s : ByteArray) (c : FObjs) : FObjs := if (dfound s c).2 = 0 then oput s ((dfound s c).1.1, 0) c else c
def dcutC (s : ByteArray) (n : Int) (c : FObjs) : FObjs := if (dfound s c).2 = 0 then oput s ((dfound s c).1.1.take (clampN n (dfound s c).1.1.length), 0) c else c
theorem wSync (B db : Nat) (s : ByteArray) (w : World) (F : Foot) (room : Int) (c : FObjs) (h : DW B w F db room c) (hs : s.size ≤ 35184372088832) :
    Calls Tryd.prog 17 #[.pointer (some ⟨db, 0, none⟩), .string s] w (Done B w F db room (dsyncC s c) (.int .i64 (dfound s c).2)) := by
  refine (dSync_any db s w F room c h.at_ hs h.env.now).mono ?_
  rintro e w' ⟨rfl, h1, h2⟩
  refine ⟨rfl, h.grow h2 h1 (h.ok.sub ?_), h2⟩
  unfold dsyncC
  split
  · exact tot_less s _ c (szAt_dfound s c)
  · exact Nat.le_refl _
theorem wCut (B db : Nat) (s : ByteArray) (n : Int) (w : World) (F : Foot) (room : Int) (c : FObjs) (h : DW B w F db room c) (hs : s.size ≤ 35184372088832) (hn1 : -9223372036854775808 ≤ n) (hn2 : n ≤ 9223372036854775807) :
    Calls Tryd.prog 21 #[.pointer (some ⟨db, 0, none⟩), .string s, .int .i64 n] w (Done B w F db room (dcutC s n c) (.int .i64 (dfound s c).2)) := by
  refine (dCut_any db s n w F room c h.at_ h.ok hs h.env.now hn1 hn2).mono ?_
  rintro e w' ⟨rfl, h1, h2⟩
  refine ⟨rfl, h.grow h2 h1 (h.ok.sub ?_), h2⟩
  unfold dcutC
  split
  · exact tot_less s _ c (Nat.le_trans (by simp only [List.length_take]; omega) (szAt_dfound s c))
  · exact Nat.le_refl _
theorem wCrash (B db : Nat) (A : Option Addr) (n cp : Nat) (ks : List Int) (w : World) (F G : Foot) (room : Int) (c : FObjs) (h : DW B w F db room c) (hn : c.length ≤ 1000000000) (hr : RS (kInt .i64) w G A n ks) (hc : n ≤ cp ∧ cp ≤ 9223372036854775807) (hG : Apart G F) :
    Calls Tryd.prog 19 #[.pointer (some ⟨db, 0, none⟩), .slice A n cp] w (Done B w F db room (crash ks c) (.tuple #[])) := by
  refine (dCrash_any db A n cp ks w F G room c h.at_ h.ok hn hG hr hc.1 hc.2).mono ?_
  rintro e w' ⟨rfl, h1, h2⟩
  exact ⟨rfl, h.grow h2 h1 (h.ok.sub (tot_crashGo _ _ _)), h2⟩
def DoneRead (w : World) (b : List Int) (err : Int) (en : Ending) (w' : World) : Prop :=
  ∃ (A : Option Addr) (cp : Nat), en = .returned (.tuple #[.slice A b.length cp, .int .i64 err]) ∧ RS (kInt .u8) w' (New w w') A b.length b ∧ Below w.heap.size w w'
theorem wRead (B db : Nat) (s : ByteArray) (w : World) (F : Foot) (room : Int) (c : FObjs) (h : DW B w F db room c) (hs : s.size ≤ 35184372088832) :
    Calls Tryd.prog 20 #[.pointer (some ⟨db, 0, none⟩), .string s] w (DoneRead w (dfound s c).1.1 (dfound s c).2) :=
  dRead_any db s w F room c h.at_ h.ok hs h.env.now
theorem wNew (B : Nat) (room : Int) (w : World) (hE : Env B w) (h0 : -9223372036854775808 ≤ room) (h1 : room ≤ 9223372036854775807) :
    Calls Tryd.prog 13 #[.int .i64 room] w fun e w' => ∃ db, e = .returned (.pointer (some ⟨db, 0, none⟩)) ∧ DW B w' (New w w') db (max 0 room) [] ∧ Below w.heap.size w w' := by
  refine (DNew_any room w h0 h1).mono ?_
  rintro e w' ⟨db, rfl, h2, h3⟩
  exact ⟨db, rfl, ⟨h2, hE.step (h3.mono hE.le), fun k hk => by have := hE.le; have := hk.1; omega, fun k hk => hk.2, ⟨by omega, by omega, by simp [osum]⟩⟩, h3⟩

theorem lit1 (k : IntKind) (T : TypeId) (W : World) (x : Int) : RS (kInt k) (W.alloc (.cells #[.int k x] T)) (fun j => j = W.heap.size) (some ⟨W.heap.size, 0, none⟩) 1 [x] :=
  (RS.lit W (F := NoF) (xs := [x]) (Elems.single (K := kInt k) rfl)).mono fun j hj => hj.resolve_left id
theorem lit3m (k : IntKind) (T : TypeId) (W : World) (x y z : Int) (fr : Nat × Nat) : RS (kInt k) (W.alloc (.cells #[.int k x, .int k y, .int k z] T fr)) (fun j => j = W.heap.size) (some ⟨W.heap.size, 0, none⟩) 3 [x, y, z] :=
  ⟨rfl, [.int k x, .int k y, .int k z], Elems.append (Elems.single (K := kInt k) (cs := [.int k x]) rfl) (Elems.append (Elems.single (K := kInt k) (cs := [.int k y]) rfl) (Elems.single (K := kInt k) (cs := [.int k z]) rfl)), fun _ => ⟨_, rfl, rfl, World.news_of_block (heap_alloc_new W _)⟩⟩

def nA : ByteArray := ⟨#[97]⟩
theorem valid_a : validName nA = true := by decide +kernel
theorem dkeys_one (s : ByteArray) (f : List Int × Nat) : dkeys [(s, f)] = [s] := by simp [dkeys, sortB]
theorem dfound_one (s : ByteArray) (f : List Int × Nat) (h : validName s = true) : dfound s [(s, f)] = (f, 0) := by
  unfold dfound; rw [h]; simp [look]
theorem dfound_nil (s : ByteArray) (h : validName s = true) : dfound s [] = (([], 0), 8) := by
  unfold dfound; rw [h]; simp [look]
theorem oput_one (s : ByteArray) (f g : List Int × Nat) : oput s g [(s, f)] = [(s, g)] := by simp [oput, look, oset]
theorem oput_nil (s : ByteArray) (g : List Int × Nat) : oput s g [] = [(s, g)] := by simp [oput, look]
theorem crash_one (s : ByteArray) (f : List Int × Nat) (ks : List Int) : crash ks [(s, f)] = if f.2 = 0 then [(s, f)] else [(s, (f.1.take (f.1.length - f.2 + crashK ks f.2), 0))] := by
  unfold crash
  rw [dkeys_one, crashGo_cons]
  simp only [look, if_true, oput_one, crashGo]
theorem num_any (n : Int) (w : World) : Calls Tryd.prog 15 #[.int .i64 n] w fun e w' => e = .returned (.int .i64 n) ∧ w = w' := by
  go_enter Tryd.func15, Tryd.ntmps15
  go_wp2
  go_ret
  exact ⟨rfl, rfl⟩

set_option maxHeartbeats 4000000 in
set_option maxRecDepth 100000 in
theorem dalive_any (w : World) (hT : TabsBelow w.heap.size w) : Calls Tryd.prog 12 #[] w fun e w' => e = .returned (.bool true) ∧ Below w.heap.size w w' := by
  have kc := fun (w : World) (C : Array Value) (n c : Nat) => Lib.run_convert_bytes_const (P := Tryd.prog) w 26 5 C n c Tryd.underlying26 Tryd.underlying5
  have hE : Env w.heap.size w := ⟨hT, Nat.le_refl _⟩
  obtain ⟨B, hB⟩ : ∃ B, Hid (w.heap.size = B) := ⟨_, rfl⟩
  rw [hB.out] at hE ⊢
  clear hT
  go_enter Tryd.func12, Tryd.ntmps12
  go_wp2_with fail
  refine (wNew B 10 w hE (by omega) (by omega)).mono ?_
  rintro e w1 ⟨sb, rfl, h1, hb1⟩
  have hb1 := hb1.mono (Nat.le_of_eq hB.out.symm)
  generalize New w w1 = F1 at h1
  go_wp2_with fail
  have hr := lit3m .u8 5 w1 120 121 122 (3, 4)
  obtain ⟨h2, ha⟩ := h1.lit (.cells #[.int .u8 120, .int .u8 121, .int .u8 122] 5 (3, 4))
  have hb2 : Below B w (w1.alloc (.cells #[.int .u8 120, .int .u8 121, .int .u8 122] 5 (3, 4))) := hb1.alloc (by have := h1.env.le; omega) _
  clear hb1
  generalize w1.alloc (.cells #[.int .u8 120, .int .u8 121, .int .u8 122] 5 (3, 4)) = w2 at h2 hr hb2 ⊢
  refine (wApp B sb nA _ 3 3 [120, 121, 122] w2 F1 _ _ _ h2 (by decide) hr ⟨by omega, by omega⟩ ha (by simp [osum])).mono ?_
  rintro e w3 ⟨rfl, h3, hk3⟩
  have hb3 := hb2.trans (h2.belowB hk3)
  generalize Grow F1 w2 w3 = F3 at h3
  clear hk3 h2 hb2 hr ha
  have he : dappE nA 3 (max 0 10) [] = 0 := by unfold dappE; rw [valid_a]; rfl
  have hc : dappC nA [120, 121, 122] (max 0 10) [] = [(nA, ([120, 121, 122], 3))] := by
    unfold dappC
    rw [show ([120, 121, 122] : List Int).length = 3 from rfl, he, dfound_nil nA valid_a, oput_nil]
    rfl
  rw [hc] at h3
  rw [he]
  clear he hc
  go_wp2_with fail
  have hr := lit1 .i64 3 w3 1
  obtain ⟨h4, ha⟩ := h3.lit (.cells #[.int .i64 1] 3)
  have hb4 : Below B w (w3.alloc (.cells #[.int .i64 1] 3)) := hb3.alloc (by have := h3.env.le; omega) _
  generalize w3.alloc (.cells #[.int .i64 1] 3) = w4 at h4 hr hb4 ⊢
  refine (wCrash B sb _ 1 1 [1] w4 F3 _ _ _ h4 (by simp) hr ⟨by omega, by omega⟩ ha).mono ?_
  rintro e w5 ⟨rfl, h5, hk5⟩
  have hb5 := hb4.trans (h4.belowB hk5)
  generalize Grow F3 w4 w5 = F5 at h5
  clear hk5 h4 hb4 hr ha
  rw [show crash [1] [(nA, ([120, 121, 122], 3))] = [(nA, ([120], 0))] by rw [crash_one]; rfl] at h5
  go_wp2_with fail
  have hf := dfound_one nA ([120], 0) valid_a
  have hrd := wRead B sb nA w5 F5 _ _ h5 (by decide)
  rw [hf] at hrd
  refine hrd.mono ?_
  rintro e w8 ⟨A8, c8, rfl, hr8, hk8⟩
  have hb8 := hb5.trans (hk8.mono h5.env.le)
  have hr8 : RS (kInt .u8) w8 (New w5 w8) A8 1 [120] := hr8
  clear hf hrd hk8 h5 h3 h1
  have hstr := hr8.str (P := Tryd.prog) 26 9 5 c8 Tryd.underlying26 Tryd.underlying5 Tryd.underlying9
  rw [show strOfNums [120] = ⟨#[120]⟩ from rfl] at hstr
  go_wp2_with fail
  refine (num_any 0 w8).mono ?_
  rintro e w9 ⟨rfl, rfl⟩
  go_wp2_with fail
  refine (num_any 0 w8).mono ?_
  rintro e w9 ⟨rfl, rfl⟩
  go_wp2
  go_ret
  exact ⟨rfl, hb8⟩
end Go.Proofs.YtfjndjbpgcggkaaDoor
