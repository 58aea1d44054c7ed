/- Kinds of the program's structs. Printed by gen_kinds.py (own work). -/
import Derived.Test.YtikpbhhnllchmaaK
set_option linter.unusedVariables false
set_option linter.unusedSimpArgs false
namespace Go.Proofs.Ytikpbhhnllchmaa
open Go.RowKit

structure Record where
  Offset : Int
  Time : Int
  Key : ByteArray
  Value : ByteArray
  Dead : Bool
def repRecord (_W : World) (_F : Foot) (x : Record) (cs : List Value) : Prop := cs = [.int .i64 x.Offset, .int .i64 x.Time, .string x.Key, .string x.Value, .bool x.Dead]
def kRecord : Kind Record where
  size := 5
  pos := by omega
  rep := repRecord
  len := by rintro W F x cs h; obtain rfl := h; rfl
  one := by rintro W F x cs h u hu; obtain rfl := h; simp at hu; rcases hu with rfl | rfl | rfl | rfl | rfl <;> rfl
  mono := fun h _ => h
  keep := fun h _ => h
  bound := fun h => h
theorem flat_Record : Flat kRecord := fun _ _ _ _ _ _ h => h
theorem at_Record {W : World} {F : Foot} {A : Option Addr} {n : Nat} {xs : List Record} (h : RS kRecord W F A n xs) {i : Nat} {x : Record} (hx : xs[i]? = some x) :
    ∃ (ad : Addr) , A = some ad ∧ F ad.block ∧ W.cell? (ad.add (i * 5)) = some (.int .i64 x.Offset) ∧ W.cell? ⟨(ad.add (i * 5)).block, (ad.add (i * 5)).off + 1, none⟩ = some (.int .i64 x.Time) ∧ W.cell? ⟨(ad.add (i * 5)).block, (ad.add (i * 5)).off + 2, none⟩ = some (.string x.Key) ∧ W.cell? ⟨(ad.add (i * 5)).block, (ad.add (i * 5)).off + 3, none⟩ = some (.string x.Value) ∧ W.cell? ⟨(ad.add (i * 5)).block, (ad.add (i * 5)).off + 4, none⟩ = some (.bool x.Dead) := by
  obtain ⟨ad, c, hA, hF, hr, hc⟩ := h.at_ hx
  obtain rfl := hr
  exact ⟨ad, hA, hF, hc 0 _ rfl, (add_field ad (i * 5) 1 (by omega) ▸ hc 1 _ rfl), (add_field ad (i * 5) 2 (by omega) ▸ hc 2 _ rfl), (add_field ad (i * 5) 3 (by omega) ▸ hc 3 _ rfl), (add_field ad (i * 5) 4 (by omega) ▸ hc 4 _ rfl)⟩
theorem box_Record {W : World} {g : Nat} {x : Record}  {fr : Nat × Nat} {t : TypeId} (h : W.heap[g]? = some (.cells #[.int .i64 x.Offset, .int .i64 x.Time, .string x.Key, .string x.Value, .bool x.Dead] t fr)) : W.cell? ⟨g, 0, none⟩ = some (.int .i64 x.Offset) ∧ W.cell? ⟨g, 1, none⟩ = some (.int .i64 x.Time) ∧ W.cell? ⟨g, 2, none⟩ = some (.string x.Key) ∧ W.cell? ⟨g, 3, none⟩ = some (.string x.Value) ∧ W.cell? ⟨g, 4, none⟩ = some (.bool x.Dead) :=
  ⟨(cell_of_row W g 0 _ _ _ h).trans rfl, (cell_of_row W g 1 _ _ _ h).trans rfl, (cell_of_row W g 2 _ _ _ h).trans rfl, (cell_of_row W g 3 _ _ _ h).trans rfl, (cell_of_row W g 4 _ _ _ h).trans rfl⟩

structure Conf where
  Segment : Int
  Keep : Int
  Age : Int
  Grace : Int
def repConf (_W : World) (_F : Foot) (x : Conf) (cs : List Value) : Prop := cs = [.int .i64 x.Segment, .int .i64 x.Keep, .int .i64 x.Age, .int .i64 x.Grace]
def kConf : Kind Conf where
  size := 4
  pos := by omega
  rep := repConf
  len := by rintro W F x cs h; obtain rfl := h; rfl
  one := by rintro W F x cs h u hu; obtain rfl := h; simp at hu; rcases hu with rfl | rfl | rfl | rfl <;> rfl
  mono := fun h _ => h
  keep := fun h _ => h
  bound := fun h => h
theorem flat_Conf : Flat kConf := fun _ _ _ _ _ _ h => h
theorem at_Conf {W : World} {F : Foot} {A : Option Addr} {n : Nat} {xs : List Conf} (h : RS kConf W F A n xs) {i : Nat} {x : Conf} (hx : xs[i]? = some x) :
    ∃ (ad : Addr) , A = some ad ∧ F ad.block ∧ W.cell? (ad.add (i * 4)) = some (.int .i64 x.Segment) ∧ W.cell? ⟨(ad.add (i * 4)).block, (ad.add (i * 4)).off + 1, none⟩ = some (.int .i64 x.Keep) ∧ W.cell? ⟨(ad.add (i * 4)).block, (ad.add (i * 4)).off + 2, none⟩ = some (.int .i64 x.Age) ∧ W.cell? ⟨(ad.add (i * 4)).block, (ad.add (i * 4)).off + 3, none⟩ = some (.int .i64 x.Grace) := by
  obtain ⟨ad, c, hA, hF, hr, hc⟩ := h.at_ hx
  obtain rfl := hr
  exact ⟨ad, hA, hF, hc 0 _ rfl, (add_field ad (i * 4) 1 (by omega) ▸ hc 1 _ rfl), (add_field ad (i * 4) 2 (by omega) ▸ hc 2 _ rfl), (add_field ad (i * 4) 3 (by omega) ▸ hc 3 _ rfl)⟩
theorem box_Conf {W : World} {g : Nat} {x : Conf}  {fr : Nat × Nat} {t : TypeId} (h : W.heap[g]? = some (.cells #[.int .i64 x.Segment, .int .i64 x.Keep, .int .i64 x.Age, .int .i64 x.Grace] t fr)) : W.cell? ⟨g, 0, none⟩ = some (.int .i64 x.Segment) ∧ W.cell? ⟨g, 1, none⟩ = some (.int .i64 x.Keep) ∧ W.cell? ⟨g, 2, none⟩ = some (.int .i64 x.Age) ∧ W.cell? ⟨g, 3, none⟩ = some (.int .i64 x.Grace) :=
  ⟨(cell_of_row W g 0 _ _ _ h).trans rfl, (cell_of_row W g 1 _ _ _ h).trans rfl, (cell_of_row W g 2 _ _ _ h).trans rfl, (cell_of_row W g 3 _ _ _ h).trans rfl⟩

structure Command where
  Kind : Int
  Pid : Int
  Seq : Int
  Records : (List Record)
  Group : ByteArray
  Offset : Int
  Max : Int
  Now : Int
  Sum : Int
  Conf : Conf
def repCommand (W : World) (F : Foot) (x : Command) (cs : List Value) : Prop := ∃ (A3 : Option Addr) (c3 : Nat), cs = [.int .i64 x.Kind, .int .i64 x.Pid, .int .i64 x.Seq, .slice A3 x.Records.length c3, .string x.Group, .int .i64 x.Offset, .int .i64 x.Max, .int .i64 x.Now, .int .u32 x.Sum, .int .i64 x.Conf.Segment, .int .i64 x.Conf.Keep, .int .i64 x.Conf.Age, .int .i64 x.Conf.Grace] ∧ x.Records.length ≤ c3 ∧ c3 ≤ 9223372036854775807 ∧ RS kRecord W F A3 x.Records.length x.Records
def kCommand : Kind Command where
  size := 13
  pos := by omega
  rep := repCommand
  len := by rintro W F x cs h; obtain ⟨_, _, rfl, _, _, _⟩ := h; rfl
  one := by rintro W F x cs h u hu; obtain ⟨_, _, rfl, _, _, _⟩ := h; simp at hu; rcases hu with rfl | rfl | rfl | rfl | rfl | rfl | rfl | rfl | rfl | rfl | rfl | rfl | rfl <;> rfl
  mono := by rintro W F G x cs h hG; obtain ⟨A3, c3, rfl, l3, m3, r3⟩ := h; exact ⟨A3, c3, rfl, l3, m3, r3.mono hG⟩
  keep := by rintro W W1 F x cs h hk; obtain ⟨A3, c3, rfl, l3, m3, r3⟩ := h; exact ⟨A3, c3, rfl, l3, m3, r3.keep hk⟩
  bound := by rintro W F x cs h; obtain ⟨A3, c3, rfl, l3, m3, r3⟩ := h; exact ⟨A3, c3, rfl, l3, m3, r3.bound⟩
theorem at_Command {W : World} {F : Foot} {A : Option Addr} {n : Nat} {xs : List Command} (h : RS kCommand W F A n xs) {i : Nat} {x : Command} (hx : xs[i]? = some x) :
    ∃ (ad : Addr) (A3 : Option Addr) (c3 : Nat), A = some ad ∧ F ad.block ∧ W.cell? (ad.add (i * 13)) = some (.int .i64 x.Kind) ∧ W.cell? ⟨(ad.add (i * 13)).block, (ad.add (i * 13)).off + 1, none⟩ = some (.int .i64 x.Pid) ∧ W.cell? ⟨(ad.add (i * 13)).block, (ad.add (i * 13)).off + 2, none⟩ = some (.int .i64 x.Seq) ∧ W.cell? ⟨(ad.add (i * 13)).block, (ad.add (i * 13)).off + 3, none⟩ = some (.slice A3 x.Records.length c3) ∧ W.cell? ⟨(ad.add (i * 13)).block, (ad.add (i * 13)).off + 4, none⟩ = some (.string x.Group) ∧ W.cell? ⟨(ad.add (i * 13)).block, (ad.add (i * 13)).off + 5, none⟩ = some (.int .i64 x.Offset) ∧ W.cell? ⟨(ad.add (i * 13)).block, (ad.add (i * 13)).off + 6, none⟩ = some (.int .i64 x.Max) ∧ W.cell? ⟨(ad.add (i * 13)).block, (ad.add (i * 13)).off + 7, none⟩ = some (.int .i64 x.Now) ∧ W.cell? ⟨(ad.add (i * 13)).block, (ad.add (i * 13)).off + 8, none⟩ = some (.int .u32 x.Sum) ∧ W.cell? ⟨(ad.add (i * 13)).block, (ad.add (i * 13)).off + 9, none⟩ = some (.int .i64 x.Conf.Segment) ∧ W.cell? ⟨(ad.add (i * 13)).block, (ad.add (i * 13)).off + 10, none⟩ = some (.int .i64 x.Conf.Keep) ∧ W.cell? ⟨(ad.add (i * 13)).block, (ad.add (i * 13)).off + 11, none⟩ = some (.int .i64 x.Conf.Age) ∧ W.cell? ⟨(ad.add (i * 13)).block, (ad.add (i * 13)).off + 12, none⟩ = some (.int .i64 x.Conf.Grace) ∧ x.Records.length ≤ c3 ∧ c3 ≤ 9223372036854775807 ∧ RS kRecord W F A3 x.Records.length x.Records := by
  obtain ⟨ad, c, hA, hF, hr, hc⟩ := h.at_ hx
  obtain ⟨A3, c3, rfl, l3, m3, r3⟩ := hr
  exact ⟨ad, A3, c3, hA, hF, hc 0 _ rfl, (add_field ad (i * 13) 1 (by omega) ▸ hc 1 _ rfl), (add_field ad (i * 13) 2 (by omega) ▸ hc 2 _ rfl), (add_field ad (i * 13) 3 (by omega) ▸ hc 3 _ rfl), (add_field ad (i * 13) 4 (by omega) ▸ hc 4 _ rfl), (add_field ad (i * 13) 5 (by omega) ▸ hc 5 _ rfl), (add_field ad (i * 13) 6 (by omega) ▸ hc 6 _ rfl), (add_field ad (i * 13) 7 (by omega) ▸ hc 7 _ rfl), (add_field ad (i * 13) 8 (by omega) ▸ hc 8 _ rfl), (add_field ad (i * 13) 9 (by omega) ▸ hc 9 _ rfl), (add_field ad (i * 13) 10 (by omega) ▸ hc 10 _ rfl), (add_field ad (i * 13) 11 (by omega) ▸ hc 11 _ rfl), (add_field ad (i * 13) 12 (by omega) ▸ hc 12 _ rfl), l3, m3, r3⟩
theorem box_Command {W : World} {g : Nat} {x : Command} {A3 : Option Addr} {c3 : Nat} {fr : Nat × Nat} {t : TypeId} (h : W.heap[g]? = some (.cells #[.int .i64 x.Kind, .int .i64 x.Pid, .int .i64 x.Seq, .slice A3 x.Records.length c3, .string x.Group, .int .i64 x.Offset, .int .i64 x.Max, .int .i64 x.Now, .int .u32 x.Sum, .int .i64 x.Conf.Segment, .int .i64 x.Conf.Keep, .int .i64 x.Conf.Age, .int .i64 x.Conf.Grace] t fr)) : W.cell? ⟨g, 0, none⟩ = some (.int .i64 x.Kind) ∧ W.cell? ⟨g, 1, none⟩ = some (.int .i64 x.Pid) ∧ W.cell? ⟨g, 2, none⟩ = some (.int .i64 x.Seq) ∧ W.cell? ⟨g, 3, none⟩ = some (.slice A3 x.Records.length c3) ∧ W.cell? ⟨g, 4, none⟩ = some (.string x.Group) ∧ W.cell? ⟨g, 5, none⟩ = some (.int .i64 x.Offset) ∧ W.cell? ⟨g, 6, none⟩ = some (.int .i64 x.Max) ∧ W.cell? ⟨g, 7, none⟩ = some (.int .i64 x.Now) ∧ W.cell? ⟨g, 8, none⟩ = some (.int .u32 x.Sum) ∧ W.cell? ⟨g, 9, none⟩ = some (.int .i64 x.Conf.Segment) ∧ W.cell? ⟨g, 10, none⟩ = some (.int .i64 x.Conf.Keep) ∧ W.cell? ⟨g, 11, none⟩ = some (.int .i64 x.Conf.Age) ∧ W.cell? ⟨g, 12, none⟩ = some (.int .i64 x.Conf.Grace) :=
  ⟨(cell_of_row W g 0 _ _ _ h).trans rfl, (cell_of_row W g 1 _ _ _ h).trans rfl, (cell_of_row W g 2 _ _ _ h).trans rfl, (cell_of_row W g 3 _ _ _ h).trans rfl, (cell_of_row W g 4 _ _ _ h).trans rfl, (cell_of_row W g 5 _ _ _ h).trans rfl, (cell_of_row W g 6 _ _ _ h).trans rfl, (cell_of_row W g 7 _ _ _ h).trans rfl, (cell_of_row W g 8 _ _ _ h).trans rfl, (cell_of_row W g 9 _ _ _ h).trans rfl, (cell_of_row W g 10 _ _ _ h).trans rfl, (cell_of_row W g 11 _ _ _ h).trans rfl, (cell_of_row W g 12 _ _ _ h).trans rfl⟩

structure Entry where
  Term : Int
  Cmd : Command
def repEntry (W : World) (F : Foot) (x : Entry) (cs : List Value) : Prop := ∃ (A4 : Option Addr) (c4 : Nat), cs = [.int .i64 x.Term, .int .i64 x.Cmd.Kind, .int .i64 x.Cmd.Pid, .int .i64 x.Cmd.Seq, .slice A4 x.Cmd.Records.length c4, .string x.Cmd.Group, .int .i64 x.Cmd.Offset, .int .i64 x.Cmd.Max, .int .i64 x.Cmd.Now, .int .u32 x.Cmd.Sum, .int .i64 x.Cmd.Conf.Segment, .int .i64 x.Cmd.Conf.Keep, .int .i64 x.Cmd.Conf.Age, .int .i64 x.Cmd.Conf.Grace] ∧ x.Cmd.Records.length ≤ c4 ∧ c4 ≤ 9223372036854775807 ∧ RS kRecord W F A4 x.Cmd.Records.length x.Cmd.Records
def kEntry : Kind Entry where
  size := 14
  pos := by omega
  rep := repEntry
  len := by rintro W F x cs h; obtain ⟨_, _, rfl, _, _, _⟩ := h; rfl
  one := by rintro W F x cs h u hu; obtain ⟨_, _, rfl, _, _, _⟩ := h; simp at hu; rcases hu with rfl | rfl | rfl | rfl | rfl | rfl | rfl | rfl | rfl | rfl | rfl | rfl | rfl | rfl <;> rfl
  mono := by rintro W F G x cs h hG; obtain ⟨A4, c4, rfl, l4, m4, r4⟩ := h; exact ⟨A4, c4, rfl, l4, m4, r4.mono hG⟩
  keep := by rintro W W1 F x cs h hk; obtain ⟨A4, c4, rfl, l4, m4, r4⟩ := h; exact ⟨A4, c4, rfl, l4, m4, r4.keep hk⟩
  bound := by rintro W F x cs h; obtain ⟨A4, c4, rfl, l4, m4, r4⟩ := h; exact ⟨A4, c4, rfl, l4, m4, r4.bound⟩
theorem at_Entry {W : World} {F : Foot} {A : Option Addr} {n : Nat} {xs : List Entry} (h : RS kEntry W F A n xs) {i : Nat} {x : Entry} (hx : xs[i]? = some x) :
    ∃ (ad : Addr) (A4 : Option Addr) (c4 : Nat), A = some ad ∧ F ad.block ∧ W.cell? (ad.add (i * 14)) = some (.int .i64 x.Term) ∧ W.cell? ⟨(ad.add (i * 14)).block, (ad.add (i * 14)).off + 1, none⟩ = some (.int .i64 x.Cmd.Kind) ∧ W.cell? ⟨(ad.add (i * 14)).block, (ad.add (i * 14)).off + 2, none⟩ = some (.int .i64 x.Cmd.Pid) ∧ W.cell? ⟨(ad.add (i * 14)).block, (ad.add (i * 14)).off + 3, none⟩ = some (.int .i64 x.Cmd.Seq) ∧ W.cell? ⟨(ad.add (i * 14)).block, (ad.add (i * 14)).off + 4, none⟩ = some (.slice A4 x.Cmd.Records.length c4) ∧ W.cell? ⟨(ad.add (i * 14)).block, (ad.add (i * 14)).off + 5, none⟩ = some (.string x.Cmd.Group) ∧ W.cell? ⟨(ad.add (i * 14)).block, (ad.add (i * 14)).off + 6, none⟩ = some (.int .i64 x.Cmd.Offset) ∧ W.cell? ⟨(ad.add (i * 14)).block, (ad.add (i * 14)).off + 7, none⟩ = some (.int .i64 x.Cmd.Max) ∧ W.cell? ⟨(ad.add (i * 14)).block, (ad.add (i * 14)).off + 8, none⟩ = some (.int .i64 x.Cmd.Now) ∧ W.cell? ⟨(ad.add (i * 14)).block, (ad.add (i * 14)).off + 9, none⟩ = some (.int .u32 x.Cmd.Sum) ∧ W.cell? ⟨(ad.add (i * 14)).block, (ad.add (i * 14)).off + 10, none⟩ = some (.int .i64 x.Cmd.Conf.Segment) ∧ W.cell? ⟨(ad.add (i * 14)).block, (ad.add (i * 14)).off + 11, none⟩ = some (.int .i64 x.Cmd.Conf.Keep) ∧ W.cell? ⟨(ad.add (i * 14)).block, (ad.add (i * 14)).off + 12, none⟩ = some (.int .i64 x.Cmd.Conf.Age) ∧ W.cell? ⟨(ad.add (i * 14)).block, (ad.add (i * 14)).off + 13, none⟩ = some (.int .i64 x.Cmd.Conf.Grace) ∧ x.Cmd.Records.length ≤ c4 ∧ c4 ≤ 9223372036854775807 ∧ RS kRecord W F A4 x.Cmd.Records.length x.Cmd.Records := by
  obtain ⟨ad, c, hA, hF, hr, hc⟩ := h.at_ hx
  obtain ⟨A4, c4, rfl, l4, m4, r4⟩ := hr
  exact ⟨ad, A4, c4, hA, hF, hc 0 _ rfl, (add_field ad (i * 14) 1 (by omega) ▸ hc 1 _ rfl), (add_field ad (i * 14) 2 (by omega) ▸ hc 2 _ rfl), (add_field ad (i * 14) 3 (by omega) ▸ hc 3 _ rfl), (add_field ad (i * 14) 4 (by omega) ▸ hc 4 _ rfl), (add_field ad (i * 14) 5 (by omega) ▸ hc 5 _ rfl), (add_field ad (i * 14) 6 (by omega) ▸ hc 6 _ rfl), (add_field ad (i * 14) 7 (by omega) ▸ hc 7 _ rfl), (add_field ad (i * 14) 8 (by omega) ▸ hc 8 _ rfl), (add_field ad (i * 14) 9 (by omega) ▸ hc 9 _ rfl), (add_field ad (i * 14) 10 (by omega) ▸ hc 10 _ rfl), (add_field ad (i * 14) 11 (by omega) ▸ hc 11 _ rfl), (add_field ad (i * 14) 12 (by omega) ▸ hc 12 _ rfl), (add_field ad (i * 14) 13 (by omega) ▸ hc 13 _ rfl), l4, m4, r4⟩
theorem box_Entry {W : World} {g : Nat} {x : Entry} {A4 : Option Addr} {c4 : Nat} {fr : Nat × Nat} {t : TypeId} (h : W.heap[g]? = some (.cells #[.int .i64 x.Term, .int .i64 x.Cmd.Kind, .int .i64 x.Cmd.Pid, .int .i64 x.Cmd.Seq, .slice A4 x.Cmd.Records.length c4, .string x.Cmd.Group, .int .i64 x.Cmd.Offset, .int .i64 x.Cmd.Max, .int .i64 x.Cmd.Now, .int .u32 x.Cmd.Sum, .int .i64 x.Cmd.Conf.Segment, .int .i64 x.Cmd.Conf.Keep, .int .i64 x.Cmd.Conf.Age, .int .i64 x.Cmd.Conf.Grace] t fr)) : W.cell? ⟨g, 0, none⟩ = some (.int .i64 x.Term) ∧ W.cell? ⟨g, 1, none⟩ = some (.int .i64 x.Cmd.Kind) ∧ W.cell? ⟨g, 2, none⟩ = some (.int .i64 x.Cmd.Pid) ∧ W.cell? ⟨g, 3, none⟩ = some (.int .i64 x.Cmd.Seq) ∧ W.cell? ⟨g, 4, none⟩ = some (.slice A4 x.Cmd.Records.length c4) ∧ W.cell? ⟨g, 5, none⟩ = some (.string x.Cmd.Group) ∧ W.cell? ⟨g, 6, none⟩ = some (.int .i64 x.Cmd.Offset) ∧ W.cell? ⟨g, 7, none⟩ = some (.int .i64 x.Cmd.Max) ∧ W.cell? ⟨g, 8, none⟩ = some (.int .i64 x.Cmd.Now) ∧ W.cell? ⟨g, 9, none⟩ = some (.int .u32 x.Cmd.Sum) ∧ W.cell? ⟨g, 10, none⟩ = some (.int .i64 x.Cmd.Conf.Segment) ∧ W.cell? ⟨g, 11, none⟩ = some (.int .i64 x.Cmd.Conf.Keep) ∧ W.cell? ⟨g, 12, none⟩ = some (.int .i64 x.Cmd.Conf.Age) ∧ W.cell? ⟨g, 13, none⟩ = some (.int .i64 x.Cmd.Conf.Grace) :=
  ⟨(cell_of_row W g 0 _ _ _ h).trans rfl, (cell_of_row W g 1 _ _ _ h).trans rfl, (cell_of_row W g 2 _ _ _ h).trans rfl, (cell_of_row W g 3 _ _ _ h).trans rfl, (cell_of_row W g 4 _ _ _ h).trans rfl, (cell_of_row W g 5 _ _ _ h).trans rfl, (cell_of_row W g 6 _ _ _ h).trans rfl, (cell_of_row W g 7 _ _ _ h).trans rfl, (cell_of_row W g 8 _ _ _ h).trans rfl, (cell_of_row W g 9 _ _ _ h).trans rfl, (cell_of_row W g 10 _ _ _ h).trans rfl, (cell_of_row W g 11 _ _ _ h).trans rfl, (cell_of_row W g 12 _ _ _ h).trans rfl, (cell_of_row W g 13 _ _ _ h).trans rfl⟩

structure Message where
  Kind : Int
  From : Int
  To : Int
  Term : Int
  Last : Int
  LastTerm : Int
  Entries : (List Entry)
  Commit : Int
  OK : Bool
  Match : Int
  Data : (List Int)
def repMessage (W : World) (F : Foot) (x : Message) (cs : List Value) : Prop := ∃ (A6 : Option Addr) (c6 : Nat) (A10 : Option Addr) (c10 : Nat), cs = [.int .i64 x.Kind, .int .i64 x.From, .int .i64 x.To, .int .i64 x.Term, .int .i64 x.Last, .int .i64 x.LastTerm, .slice A6 x.Entries.length c6, .int .i64 x.Commit, .bool x.OK, .int .i64 x.Match, .slice A10 x.Data.length c10] ∧ x.Entries.length ≤ c6 ∧ c6 ≤ 9223372036854775807 ∧ RS kEntry W F A6 x.Entries.length x.Entries ∧ x.Data.length ≤ c10 ∧ c10 ≤ 9223372036854775807 ∧ RS (kInt .u8) W F A10 x.Data.length x.Data
def kMessage : Kind Message where
  size := 11
  pos := by omega
  rep := repMessage
  len := by rintro W F x cs h; obtain ⟨_, _, _, _, rfl, _, _, _, _, _, _⟩ := h; rfl
  one := by rintro W F x cs h u hu; obtain ⟨_, _, _, _, rfl, _, _, _, _, _, _⟩ := h; simp at hu; rcases hu with rfl | rfl | rfl | rfl | rfl | rfl | rfl | rfl | rfl | rfl | rfl <;> rfl
  mono := by rintro W F G x cs h hG; obtain ⟨A6, c6, A10, c10, rfl, l6, m6, r6, l10, m10, r10⟩ := h; exact ⟨A6, c6, A10, c10, rfl, l6, m6, r6.mono hG, l10, m10, r10.mono hG⟩
  keep := by rintro W W1 F x cs h hk; obtain ⟨A6, c6, A10, c10, rfl, l6, m6, r6, l10, m10, r10⟩ := h; exact ⟨A6, c6, A10, c10, rfl, l6, m6, r6.keep hk, l10, m10, r10.keep hk⟩
  bound := by rintro W F x cs h; obtain ⟨A6, c6, A10, c10, rfl, l6, m6, r6, l10, m10, r10⟩ := h; exact ⟨A6, c6, A10, c10, rfl, l6, m6, r6.bound, l10, m10, r10.bound⟩
theorem at_Message {W : World} {F : Foot} {A : Option Addr} {n : Nat} {xs : List Message} (h : RS kMessage W F A n xs) {i : Nat} {x : Message} (hx : xs[i]? = some x) :
    ∃ (ad : Addr) (A6 : Option Addr) (c6 : Nat) (A10 : Option Addr) (c10 : Nat), A = some ad ∧ F ad.block ∧ W.cell? (ad.add (i * 11)) = some (.int .i64 x.Kind) ∧ W.cell? ⟨(ad.add (i * 11)).block, (ad.add (i * 11)).off + 1, none⟩ = some (.int .i64 x.From) ∧ W.cell? ⟨(ad.add (i * 11)).block, (ad.add (i * 11)).off + 2, none⟩ = some (.int .i64 x.To) ∧ W.cell? ⟨(ad.add (i * 11)).block, (ad.add (i * 11)).off + 3, none⟩ = some (.int .i64 x.Term) ∧ W.cell? ⟨(ad.add (i * 11)).block, (ad.add (i * 11)).off + 4, none⟩ = some (.int .i64 x.Last) ∧ W.cell? ⟨(ad.add (i * 11)).block, (ad.add (i * 11)).off + 5, none⟩ = some (.int .i64 x.LastTerm) ∧ W.cell? ⟨(ad.add (i * 11)).block, (ad.add (i * 11)).off + 6, none⟩ = some (.slice A6 x.Entries.length c6) ∧ W.cell? ⟨(ad.add (i * 11)).block, (ad.add (i * 11)).off + 7, none⟩ = some (.int .i64 x.Commit) ∧ W.cell? ⟨(ad.add (i * 11)).block, (ad.add (i * 11)).off + 8, none⟩ = some (.bool x.OK) ∧ W.cell? ⟨(ad.add (i * 11)).block, (ad.add (i * 11)).off + 9, none⟩ = some (.int .i64 x.Match) ∧ W.cell? ⟨(ad.add (i * 11)).block, (ad.add (i * 11)).off + 10, none⟩ = some (.slice A10 x.Data.length c10) ∧ x.Entries.length ≤ c6 ∧ c6 ≤ 9223372036854775807 ∧ RS kEntry W F A6 x.Entries.length x.Entries ∧ x.Data.length ≤ c10 ∧ c10 ≤ 9223372036854775807 ∧ RS (kInt .u8) W F A10 x.Data.length x.Data := by
  obtain ⟨ad, c, hA, hF, hr, hc⟩ := h.at_ hx
  obtain ⟨A6, c6, A10, c10, rfl, l6, m6, r6, l10, m10, r10⟩ := hr
  exact ⟨ad, A6, c6, A10, c10, hA, hF, hc 0 _ rfl, (add_field ad (i * 11) 1 (by omega) ▸ hc 1 _ rfl), (add_field ad (i * 11) 2 (by omega) ▸ hc 2 _ rfl), (add_field ad (i * 11) 3 (by omega) ▸ hc 3 _ rfl), (add_field ad (i * 11) 4 (by omega) ▸ hc 4 _ rfl), (add_field ad (i * 11) 5 (by omega) ▸ hc 5 _ rfl), (add_field ad (i * 11) 6 (by omega) ▸ hc 6 _ rfl), (add_field ad (i * 11) 7 (by omega) ▸ hc 7 _ rfl), (add_field ad (i * 11) 8 (by omega) ▸ hc 8 _ rfl), (add_field ad (i * 11) 9 (by omega) ▸ hc 9 _ rfl), (add_field ad (i * 11) 10 (by omega) ▸ hc 10 _ rfl), l6, m6, r6, l10, m10, r10⟩
theorem box_Message {W : World} {g : Nat} {x : Message} {A6 : Option Addr} {c6 : Nat} {A10 : Option Addr} {c10 : Nat} {fr : Nat × Nat} {t : TypeId} (h : W.heap[g]? = some (.cells #[.int .i64 x.Kind, .int .i64 x.From, .int .i64 x.To, .int .i64 x.Term, .int .i64 x.Last, .int .i64 x.LastTerm, .slice A6 x.Entries.length c6, .int .i64 x.Commit, .bool x.OK, .int .i64 x.Match, .slice A10 x.Data.length c10] t fr)) : W.cell? ⟨g, 0, none⟩ = some (.int .i64 x.Kind) ∧ W.cell? ⟨g, 1, none⟩ = some (.int .i64 x.From) ∧ W.cell? ⟨g, 2, none⟩ = some (.int .i64 x.To) ∧ W.cell? ⟨g, 3, none⟩ = some (.int .i64 x.Term) ∧ W.cell? ⟨g, 4, none⟩ = some (.int .i64 x.Last) ∧ W.cell? ⟨g, 5, none⟩ = some (.int .i64 x.LastTerm) ∧ W.cell? ⟨g, 6, none⟩ = some (.slice A6 x.Entries.length c6) ∧ W.cell? ⟨g, 7, none⟩ = some (.int .i64 x.Commit) ∧ W.cell? ⟨g, 8, none⟩ = some (.bool x.OK) ∧ W.cell? ⟨g, 9, none⟩ = some (.int .i64 x.Match) ∧ W.cell? ⟨g, 10, none⟩ = some (.slice A10 x.Data.length c10) :=
  ⟨(cell_of_row W g 0 _ _ _ h).trans rfl, (cell_of_row W g 1 _ _ _ h).trans rfl, (cell_of_row W g 2 _ _ _ h).trans rfl, (cell_of_row W g 3 _ _ _ h).trans rfl, (cell_of_row W g 4 _ _ _ h).trans rfl, (cell_of_row W g 5 _ _ _ h).trans rfl, (cell_of_row W g 6 _ _ _ h).trans rfl, (cell_of_row W g 7 _ _ _ h).trans rfl, (cell_of_row W g 8 _ _ _ h).trans rfl, (cell_of_row W g 9 _ _ _ h).trans rfl, (cell_of_row W g 10 _ _ _ h).trans rfl⟩

structure Status where
  Term : Int
  Vote : Int
  Role : Int
  Leader : Int
  Commit : Int
  Last : Int
def repStatus (_W : World) (_F : Foot) (x : Status) (cs : List Value) : Prop := cs = [.int .i64 x.Term, .int .i64 x.Vote, .int .i64 x.Role, .int .i64 x.Leader, .int .i64 x.Commit, .int .i64 x.Last]
def kStatus : Kind Status where
  size := 6
  pos := by omega
  rep := repStatus
  len := by rintro W F x cs h; obtain rfl := h; rfl
  one := by rintro W F x cs h u hu; obtain rfl := h; simp at hu; rcases hu with rfl | rfl | rfl | rfl | rfl | rfl <;> rfl
  mono := fun h _ => h
  keep := fun h _ => h
  bound := fun h => h
theorem flat_Status : Flat kStatus := fun _ _ _ _ _ _ h => h
theorem at_Status {W : World} {F : Foot} {A : Option Addr} {n : Nat} {xs : List Status} (h : RS kStatus W F A n xs) {i : Nat} {x : Status} (hx : xs[i]? = some x) :
    ∃ (ad : Addr) , A = some ad ∧ F ad.block ∧ W.cell? (ad.add (i * 6)) = some (.int .i64 x.Term) ∧ W.cell? ⟨(ad.add (i * 6)).block, (ad.add (i * 6)).off + 1, none⟩ = some (.int .i64 x.Vote) ∧ W.cell? ⟨(ad.add (i * 6)).block, (ad.add (i * 6)).off + 2, none⟩ = some (.int .i64 x.Role) ∧ W.cell? ⟨(ad.add (i * 6)).block, (ad.add (i * 6)).off + 3, none⟩ = some (.int .i64 x.Leader) ∧ W.cell? ⟨(ad.add (i * 6)).block, (ad.add (i * 6)).off + 4, none⟩ = some (.int .i64 x.Commit) ∧ W.cell? ⟨(ad.add (i * 6)).block, (ad.add (i * 6)).off + 5, none⟩ = some (.int .i64 x.Last) := by
  obtain ⟨ad, c, hA, hF, hr, hc⟩ := h.at_ hx
  obtain rfl := hr
  exact ⟨ad, hA, hF, hc 0 _ rfl, (add_field ad (i * 6) 1 (by omega) ▸ hc 1 _ rfl), (add_field ad (i * 6) 2 (by omega) ▸ hc 2 _ rfl), (add_field ad (i * 6) 3 (by omega) ▸ hc 3 _ rfl), (add_field ad (i * 6) 4 (by omega) ▸ hc 4 _ rfl), (add_field ad (i * 6) 5 (by omega) ▸ hc 5 _ rfl)⟩
theorem box_Status {W : World} {g : Nat} {x : Status}  {fr : Nat × Nat} {t : TypeId} (h : W.heap[g]? = some (.cells #[.int .i64 x.Term, .int .i64 x.Vote, .int .i64 x.Role, .int .i64 x.Leader, .int .i64 x.Commit, .int .i64 x.Last] t fr)) : W.cell? ⟨g, 0, none⟩ = some (.int .i64 x.Term) ∧ W.cell? ⟨g, 1, none⟩ = some (.int .i64 x.Vote) ∧ W.cell? ⟨g, 2, none⟩ = some (.int .i64 x.Role) ∧ W.cell? ⟨g, 3, none⟩ = some (.int .i64 x.Leader) ∧ W.cell? ⟨g, 4, none⟩ = some (.int .i64 x.Commit) ∧ W.cell? ⟨g, 5, none⟩ = some (.int .i64 x.Last) :=
  ⟨(cell_of_row W g 0 _ _ _ h).trans rfl, (cell_of_row W g 1 _ _ _ h).trans rfl, (cell_of_row W g 2 _ _ _ h).trans rfl, (cell_of_row W g 3 _ _ _ h).trans rfl, (cell_of_row W g 4 _ _ _ h).trans rfl, (cell_of_row W g 5 _ _ _ h).trans rfl⟩

end Go.Proofs.Ytikpbhhnllchmaa
