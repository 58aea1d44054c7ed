/- A store in memory: what it holds. -/
import Derived.Test.YtngmipppgnlkdaaDoorDM6
import Derived.Test.YtngmipppgnlkdaaDoorDS1
set_option linter.unusedVariables false
set_option linter.unusedSimpArgs false
namespace Go.Proofs.YtngmipppgnlkdaaDoor
open Go.RowKit

/-- What a store holds: names and bytes, in the order in which they came. -/
abbrev Objs := List (ByteArray × List Int)
def look (s : ByteArray) : Objs → Option (List Int)
  | [] => none
  | x :: r => if s = x.1 then some x.2 else look s r
def oset (s : ByteArray) (b : List Int) : Objs → Objs
  | [] => []
  | x :: r => if s = x.1 then (x.1, b) :: r else x :: oset s b r
def odel (s : ByteArray) : Objs → Objs
  | [] => []
  | x :: r => if s = x.1 then r else x :: odel s r
def tot : Objs → Nat
  | [] => 0
  | x :: r => x.2.length + tot r
def szOf (s : ByteArray) (c : Objs) : Nat := match look s c with | some b => b.length | none => 0
def oput (s : ByteArray) (b : List Int) (c : Objs) : Objs := match look s c with | some _ => oset s b c | none => c ++ [(s, b)]

theorem tot_app (s : ByteArray) (b : List Int) : ∀ c : Objs, tot (c ++ [(s, b)]) = tot c + b.length
  | [] => by simp [tot]
  | x :: r => by simp [tot, tot_app s b r]; omega
theorem tot_set (s : ByteArray) (b o : List Int) : ∀ c : Objs, look s c = some o → tot (oset s b c) + o.length = tot c + b.length
  | [], h => by cases h
  | x :: r, h => by
    unfold look at h
    by_cases hs : s = x.1
    · rw [if_pos hs] at h
      injection h with h
      subst h
      simp [oset, hs, tot]; omega
    · rw [if_neg hs] at h
      have := tot_set s b o r h
      simp [oset, hs, tot]; omega
theorem tot_del (s : ByteArray) (o : List Int) : ∀ c : Objs, look s c = some o → tot (odel s c) + o.length = tot c
  | [], h => by cases h
  | x :: r, h => by
    unfold look at h
    by_cases hs : s = x.1
    · rw [if_pos hs] at h
      injection h with h
      subst h
      simp [odel, hs, tot]; omega
    · rw [if_neg hs] at h
      have := tot_del s o r h
      simp [odel, hs, tot]; omega
theorem szOf_le (s : ByteArray) (c : Objs) : szOf s c ≤ tot c := by
  unfold szOf
  cases h : look s c with
  | none => exact Nat.zero_le _
  | some o => have := tot_del s o c h; show o.length ≤ _; omega
theorem tot_put (s : ByteArray) (b : List Int) (c : Objs) : tot (oput s b c) + szOf s c = tot c + b.length := by
  unfold oput szOf
  cases h : look s c with
  | none => show tot (c ++ [(s, b)]) + 0 = _; rw [tot_app]; omega
  | some o => exact tot_set s b o c h
theorem look_mem (s : ByteArray) (o : List Int) : ∀ c : Objs, look s c = some o → (s, o) ∈ c
  | [], h => by cases h
  | x :: r, h => by
    unfold look at h
    by_cases hs : s = x.1
    · rw [if_pos hs] at h
      injection h with h
      subst h hs
      exact List.mem_cons_self
    · rw [if_neg hs] at h
      exact List.mem_cons_of_mem _ (look_mem s o r h)
theorem mem_oset (s : ByteArray) (b : List Int) : ∀ (c : Objs) (y : ByteArray × List Int), y ∈ oset s b c → y ∈ c ∨ y.2 = b
  | [], y, h => by cases h
  | x :: r, y, h => by
    unfold oset at h
    by_cases hs : s = x.1
    · rw [if_pos hs] at h
      rcases List.mem_cons.1 h with rfl | h
      · exact .inr rfl
      · exact .inl (List.mem_cons_of_mem _ h)
    · rw [if_neg hs] at h
      rcases List.mem_cons.1 h with rfl | h
      · exact .inl List.mem_cons_self
      · exact (mem_oset s b r y h).imp (List.mem_cons_of_mem _) id
theorem mem_odel (s : ByteArray) : ∀ (c : Objs) (y : ByteArray × List Int), y ∈ odel s c → y ∈ c
  | [], y, h => by cases h
  | x :: r, y, h => by
    unfold odel at h
    by_cases hs : s = x.1
    · rw [if_pos hs] at h; exact List.mem_cons_of_mem _ h
    · rw [if_neg hs] at h
      rcases List.mem_cons.1 h with rfl | h
      · exact List.mem_cons_self
      · exact List.mem_cons_of_mem _ (mem_odel s r y h)
theorem mem_oput (s : ByteArray) (b : List Int) (c : Objs) (y : ByteArray × List Int) (h : y ∈ oput s b c) : y ∈ c ∨ y.2 = b := by
  unfold oput at h
  cases hl : look s c with
  | none =>
    rw [hl] at h
    rcases List.mem_append.1 h with h | h
    · exact .inl h
    · simp at h; subst h; exact .inr rfl
  | some o => rw [hl] at h; exact mem_oset s b c y h

/-! ### The map's entries say what the store holds -/
/-- A slice value that reads as bytes. -/
def RV (W : World) (F : Foot) (v : Value) (b : List Int) : Prop :=
  ∃ (A : Option Addr) (c : Nat), v = .slice A b.length c ∧ b.length ≤ c ∧ c ≤ 9223372036854775807 ∧ RS (kInt .u8) W F A b.length b
theorem RV.keep {W W' : World} {F : Foot} {v : Value} {b : List Int} (h : RV W F v b) (hk : ∀ k, F k → k < W.heap.size → W'.heap[k]? = W.heap[k]?) : RV W' F v b := by
  obtain ⟨A, c, h1, h2, h3, h4⟩ := h
  exact ⟨A, c, h1, h2, h3, h4.keep hk⟩
theorem RV.mono {W : World} {F G : Foot} {v : Value} {b : List Int} (h : RV W F v b) (hG : ∀ k, F k → G k) : RV W G v b := by
  obtain ⟨A, c, h1, h2, h3, h4⟩ := h
  exact ⟨A, c, h1, h2, h3, h4.mono hG⟩
theorem RV.bound {W : World} {F : Foot} {v : Value} {b : List Int} (h : RV W F v b) : RV W (fun k => F k ∧ k < W.heap.size) v b := by
  obtain ⟨A, c, h1, h2, h3, h4⟩ := h
  exact ⟨A, c, h1, h2, h3, h4.bound⟩
theorem RV.of_own {e : TypeId} {W : World} {F : Foot} {v : Value} {b : List Int} (h : OwnS (kInt .u8) e W F v b) : RV W F v b := by
  obtain ⟨A, c, h1, h2, h3, h4⟩ := h.reads
  exact ⟨A, c, h1, h2, h3, h4⟩
def EntsR (W : World) (F : Foot) : Ents → Objs → Prop
  | [], [] => True
  | x :: m, y :: c => x.1 = y.1 ∧ RV W F x.2.1 y.2 ∧ EntsR W F m c
  | _, _ => False
section
variable {W W' : World} {F G : Foot}
theorem EntsR.keep (hk : ∀ k, F k → k < W.heap.size → W'.heap[k]? = W.heap[k]?) : ∀ {m : Ents} {c : Objs}, EntsR W F m c → EntsR W' F m c
  | [], [], _ => trivial
  | _ :: _, _ :: _, h => ⟨h.1, h.2.1.keep hk, h.2.2.keep hk⟩
  | [], _ :: _, h => h.elim
  | _ :: _, [], h => h.elim
theorem EntsR.mono (hG : ∀ k, F k → G k) : ∀ {m : Ents} {c : Objs}, EntsR W F m c → EntsR W G m c
  | [], [], _ => trivial
  | _ :: _, _ :: _, h => ⟨h.1, h.2.1.mono hG, h.2.2.mono hG⟩
  | [], _ :: _, h => h.elim
  | _ :: _, [], h => h.elim
theorem EntsR.bound : ∀ {m : Ents} {c : Objs}, EntsR W F m c → EntsR W (fun k => F k ∧ k < W.heap.size) m c
  | [], [], _ => trivial
  | _ :: _, _ :: _, h => ⟨h.1, h.2.1.bound, h.2.2.bound⟩
  | [], _ :: _, h => h.elim
  | _ :: _, [], h => h.elim
theorem EntsR.look (s : ByteArray) : ∀ {m : Ents} {c : Objs} (i : Nat), EntsR W F m c →
    (match mfind s m i, look s c with | some x, some b => RV W F x.2 b | none, none => True | _, _ => False)
  | [], [], _, _ => trivial
  | x :: m, y :: c, i, h => by
    unfold mfind Go.Proofs.YtngmipppgnlkdaaDoor.look
    rw [h.1]
    by_cases hs : s = y.1
    · rw [if_pos hs, if_pos hs]; exact h.2.1
    · rw [if_neg hs, if_neg hs]; exact EntsR.look s (i + 1) h.2.2
  | [], _ :: _, _, h => h.elim
  | _ :: _, [], _, h => h.elim
theorem EntsR.set (s : ByteArray) (v : Value) (b : List Int) (hv : RV W F v b) : ∀ {m : Ents} {c : Objs}, EntsR W F m c → EntsR W F (mset s v m) (oset s b c)
  | [], [], _ => trivial
  | x :: m, y :: c, h => by
    unfold mset oset
    rw [h.1]
    by_cases hs : s = y.1
    · rw [if_pos hs, if_pos hs]; exact ⟨rfl, hv, h.2.2⟩
    · rw [if_neg hs, if_neg hs]; exact ⟨h.1, h.2.1, EntsR.set s v b hv h.2.2⟩
  | [], _ :: _, h => h.elim
  | _ :: _, [], h => h.elim
theorem EntsR.del (s : ByteArray) : ∀ {m : Ents} {c : Objs}, EntsR W F m c → EntsR W F (mdel s m) (odel s c)
  | [], [], _ => trivial
  | x :: m, y :: c, h => by
    unfold mdel odel
    rw [h.1]
    by_cases hs : s = y.1
    · rw [if_pos hs, if_pos hs]; exact h.2.2
    · rw [if_neg hs, if_neg hs]; exact ⟨h.1, h.2.1, EntsR.del s h.2.2⟩
  | [], _ :: _, h => h.elim
  | _ :: _, [], h => h.elim
theorem EntsR.app (s : ByteArray) (v : Value) (n : Nat) (b : List Int) (hv : RV W F v b) : ∀ {m : Ents} {c : Objs}, EntsR W F m c → EntsR W F (m ++ [(s, v, n)]) (c ++ [(s, b)])
  | [], [], _ => ⟨rfl, hv, trivial⟩
  | _ :: _, _ :: _, h => ⟨h.1, h.2.1, EntsR.app s v n b hv h.2.2⟩
  | [], _ :: _, h => h.elim
  | _ :: _, [], h => h.elim
end

/-! ### The store -/
structure StoreIn (W : World) (F : Foot) (sb mb clock : Nat) (m : Ents) (fv : Value) (room : Int) (bad : List Int) (c : Objs) : Prop where
  cells : W.heap[sb]? = some (.cells #[.map (some mb), .int .i64 room, .int .i64 (tot c), fv] 66 (0, 0))
  map : W.heap[mb]? = some (.map (ents m).toArray clock)
  fs : F sb
  fm : F mb
  q : Queue 3 W (fun k => F k ∧ k ≠ sb ∧ k ≠ mb) fv bad
  e : EntsR W (fun k => F k ∧ k ≠ sb ∧ k ≠ mb ∧ fv.ownBlock ≠ some k) m c
  len : ∀ y ∈ c, y.2.length ≤ 1000000000000
def StoreAt (W : World) (F : Foot) (sb : Nat) (room : Int) (bad : List Int) (c : Objs) : Prop := ∃ mb clock m fv, StoreIn W F sb mb clock m fv room bad c
section
variable {W W' : World} {F G : Foot} {sb mb clock : Nat} {m : Ents} {fv : Value} {room : Int} {bad : List Int} {c : Objs}
theorem StoreIn.slt (h : StoreIn W F sb mb clock m fv room bad c) : sb < W.heap.size := (Array.getElem?_eq_some_iff.1 h.cells).1
theorem StoreIn.mlt (h : StoreIn W F sb mb clock m fv room bad c) : mb < W.heap.size := (Array.getElem?_eq_some_iff.1 h.map).1
theorem StoreIn.ne (h : StoreIn W F sb mb clock m fv room bad c) : sb ≠ mb := by
  rintro rfl
  have := h.cells.symm.trans h.map
  cases this
theorem StoreIn.keep (h : StoreIn W F sb mb clock m fv room bad c) (hk : ∀ k, F k → k < W.heap.size → W'.heap[k]? = W.heap[k]?) : StoreIn W' F sb mb clock m fv room bad c :=
  ⟨(hk sb h.fs h.slt).trans h.cells, (hk mb h.fm h.mlt).trans h.map, h.fs, h.fm, h.q.keep fun k hf hl => hk k hf.1 hl, h.e.keep fun k hf hl => hk k hf.1 hl, h.len⟩
theorem StoreIn.mono (h : StoreIn W F sb mb clock m fv room bad c) (hG : ∀ k, F k → G k) : StoreIn W G sb mb clock m fv room bad c :=
  ⟨h.cells, h.map, hG _ h.fs, hG _ h.fm, h.q.mono fun k hk => ⟨hG k hk.1, hk.2⟩, h.e.mono fun k hk => ⟨hG k hk.1, hk.2⟩, h.len⟩
theorem StoreIn.bound (h : StoreIn W F sb mb clock m fv room bad c) : StoreIn W (fun k => F k ∧ k < W.heap.size) sb mb clock m fv room bad c :=
  ⟨h.cells, h.map, ⟨h.fs, h.slt⟩, ⟨h.fm, h.mlt⟩, h.q.bound.mono fun k hk => ⟨⟨hk.1.1, hk.2⟩, hk.1.2⟩, h.e.bound.mono fun k hk => ⟨⟨hk.1.1, hk.2⟩, hk.1.2⟩, h.len⟩
theorem StoreAt.lt (h : StoreAt W F sb room bad c) : sb < W.heap.size := by obtain ⟨_, _, _, _, h⟩ := h; exact h.slt
theorem StoreAt.keep (h : StoreAt W F sb room bad c) (hk : ∀ k, F k → k < W.heap.size → W'.heap[k]? = W.heap[k]?) : StoreAt W' F sb room bad c := by
  obtain ⟨_, _, _, _, h⟩ := h; exact ⟨_, _, _, _, h.keep hk⟩
theorem StoreAt.keeps {S : Foot} (h : StoreAt W F sb room bad c) (hk : Keeps S W W') (ha : Apart F S) : StoreAt W' F sb room bad c := h.keep fun k hf hlt => hk.block k hlt (ha k hf)
theorem StoreAt.below (h : StoreAt W F sb room bad c) (hk : Below W.heap.size W W') : StoreAt W' F sb room bad c := h.keep fun k _ hlt => hk.block k hlt
theorem StoreAt.mono (h : StoreAt W F sb room bad c) (hG : ∀ k, F k → G k) : StoreAt W G sb room bad c := by
  obtain ⟨_, _, _, _, h⟩ := h; exact ⟨_, _, _, _, h.mono hG⟩
theorem StoreAt.bound (h : StoreAt W F sb room bad c) : StoreAt W (fun k => F k ∧ k < W.heap.size) sb room bad c := by
  obtain ⟨_, _, _, _, h⟩ := h; exact ⟨_, _, _, _, h.bound⟩
end

/-- The map's block is turned. -/
def World.setMap (w : World) (mb : Nat) (m : Ents) (clock : Nat) : World := { w with heap := w.heap.setIfInBounds mb (.map (ents m).toArray clock) }
theorem setMap_other (w : World) (mb : Nat) (m : Ents) (clock k : Nat) (h : k ≠ mb) : (World.setMap w mb m clock).heap[k]? = w.heap[k]? := by
  simp [World.setMap, Array.getElem?_setIfInBounds_ne (Ne.symm h)]
theorem setMap_same (w : World) (mb : Nat) (m : Ents) (clock : Nat) (h : mb < w.heap.size) : (World.setMap w mb m clock).heap[mb]? = some (.map (ents m).toArray clock) := by
  simp [World.setMap, h]
theorem setMap_size (w : World) (mb : Nat) (m : Ents) (clock : Nat) : (World.setMap w mb m clock).heap.size = w.heap.size := by simp [World.setMap]
theorem Keeps.setMap {S : Foot} {a w : World} (h : Keeps S a w) {mb : Nat} (hp : mb < a.heap.size → S mb) (m : Ents) (clock : Nat) : Keeps S a (World.setMap w mb m clock) :=
  ⟨h.os, h.tape, h.output, by rw [setMap_size]; exact h.size, fun k hk hs => (setMap_other _ _ _ _ _ (fun e => hs (by subst e; exact hp hk))).trans (h.block k hk hs)⟩
end Go.Proofs.YtngmipppgnlkdaaDoor
