/- Kinds of the program's structs. Printed by gen_kinds.py (own work). -/
import Derived.Test.YtngmipppgnlkdaaDoorK
set_option linter.unusedVariables false
set_option linter.unusedSimpArgs false
namespace Go.Proofs.YtngmipppgnlkdaaDoor
open Go.RowKit

structure Record where
  Offset : Int
  Time : Int
  Key : ByteArray
  Value : ByteArray
  Dead : Bool
def repRecord (_W : World) (_F : Foot) (x : Record) (cs : List Value) : Prop := cs = [.int .i64 x.Offset, .int .i64 x.Time, .string x.Key, .string x.Value, .bool x.Dead]
def kRecord : Kind Record where
  size := 5
  pos := by omega
  rep := repRecord
  len := by rintro W F x cs h; obtain rfl := h; rfl
  one := by rintro W F x cs h u hu; obtain rfl := h; simp at hu; rcases hu with rfl | rfl | rfl | rfl | rfl <;> rfl
  mono := fun h _ => h
  keep := fun h _ => h
  bound := fun h => h
theorem flat_Record : Flat kRecord := fun _ _ _ _ _ _ h => h
theorem at_Record {W : World} {F : Foot} {A : Option Addr} {n : Nat} {xs : List Record} (h : RS kRecord W F A n xs) {i : Nat} {x : Record} (hx : xs[i]? = some x) :
    ∃ (ad : Addr) , A = some ad ∧ F ad.block ∧ W.cell? (ad.add (i * 5)) = some (.int .i64 x.Offset) ∧ W.cell? ⟨(ad.add (i * 5)).block, (ad.add (i * 5)).off + 1, none⟩ = some (.int .i64 x.Time) ∧ W.cell? ⟨(ad.add (i * 5)).block, (ad.add (i * 5)).off + 2, none⟩ = some (.string x.Key) ∧ W.cell? ⟨(ad.add (i * 5)).block, (ad.add (i * 5)).off + 3, none⟩ = some (.string x.Value) ∧ W.cell? ⟨(ad.add (i * 5)).block, (ad.add (i * 5)).off + 4, none⟩ = some (.bool x.Dead) := by
  obtain ⟨ad, c, hA, hF, hr, hc⟩ := h.at_ hx
  obtain rfl := hr
  exact ⟨ad, hA, hF, hc 0 _ rfl, (add_field ad (i * 5) 1 (by omega) ▸ hc 1 _ rfl), (add_field ad (i * 5) 2 (by omega) ▸ hc 2 _ rfl), (add_field ad (i * 5) 3 (by omega) ▸ hc 3 _ rfl), (add_field ad (i * 5) 4 (by omega) ▸ hc 4 _ rfl)⟩
theorem box_Record {W : World} {g : Nat} {x : Record}  {fr : Nat × Nat} {t : TypeId} (h : W.heap[g]? = some (.cells #[.int .i64 x.Offset, .int .i64 x.Time, .string x.Key, .string x.Value, .bool x.Dead] t fr)) : W.cell? ⟨g, 0, none⟩ = some (.int .i64 x.Offset) ∧ W.cell? ⟨g, 1, none⟩ = some (.int .i64 x.Time) ∧ W.cell? ⟨g, 2, none⟩ = some (.string x.Key) ∧ W.cell? ⟨g, 3, none⟩ = some (.string x.Value) ∧ W.cell? ⟨g, 4, none⟩ = some (.bool x.Dead) :=
  ⟨(cell_of_row W g 0 _ _ _ h).trans rfl, (cell_of_row W g 1 _ _ _ h).trans rfl, (cell_of_row W g 2 _ _ _ h).trans rfl, (cell_of_row W g 3 _ _ _ h).trans rfl, (cell_of_row W g 4 _ _ _ h).trans rfl⟩

structure Conf where
  Segment : Int
  Keep : Int
  Age : Int
  Grace : Int
def repConf (_W : World) (_F : Foot) (x : Conf) (cs : List Value) : Prop := cs = [.int .i64 x.Segment, .int .i64 x.Keep, .int .i64 x.Age, .int .i64 x.Grace]
def kConf : Kind Conf where
  size := 4
  pos := by omega
  rep := repConf
  len := by rintro W F x cs h; obtain rfl := h; rfl
  one := by rintro W F x cs h u hu; obtain rfl := h; simp at hu; rcases hu with rfl | rfl | rfl | rfl <;> rfl
  mono := fun h _ => h
  keep := fun h _ => h
  bound := fun h => h
theorem flat_Conf : Flat kConf := fun _ _ _ _ _ _ h => h
theorem at_Conf {W : World} {F : Foot} {A : Option Addr} {n : Nat} {xs : List Conf} (h : RS kConf W F A n xs) {i : Nat} {x : Conf} (hx : xs[i]? = some x) :
    ∃ (ad : Addr) , A = some ad ∧ F ad.block ∧ W.cell? (ad.add (i * 4)) = some (.int .i64 x.Segment) ∧ W.cell? ⟨(ad.add (i * 4)).block, (ad.add (i * 4)).off + 1, none⟩ = some (.int .i64 x.Keep) ∧ W.cell? ⟨(ad.add (i * 4)).block, (ad.add (i * 4)).off + 2, none⟩ = some (.int .i64 x.Age) ∧ W.cell? ⟨(ad.add (i * 4)).block, (ad.add (i * 4)).off + 3, none⟩ = some (.int .i64 x.Grace) := by
  obtain ⟨ad, c, hA, hF, hr, hc⟩ := h.at_ hx
  obtain rfl := hr
  exact ⟨ad, hA, hF, hc 0 _ rfl, (add_field ad (i * 4) 1 (by omega) ▸ hc 1 _ rfl), (add_field ad (i * 4) 2 (by omega) ▸ hc 2 _ rfl), (add_field ad (i * 4) 3 (by omega) ▸ hc 3 _ rfl)⟩
theorem box_Conf {W : World} {g : Nat} {x : Conf}  {fr : Nat × Nat} {t : TypeId} (h : W.heap[g]? = some (.cells #[.int .i64 x.Segment, .int .i64 x.Keep, .int .i64 x.Age, .int .i64 x.Grace] t fr)) : W.cell? ⟨g, 0, none⟩ = some (.int .i64 x.Segment) ∧ W.cell? ⟨g, 1, none⟩ = some (.int .i64 x.Keep) ∧ W.cell? ⟨g, 2, none⟩ = some (.int .i64 x.Age) ∧ W.cell? ⟨g, 3, none⟩ = some (.int .i64 x.Grace) :=
  ⟨(cell_of_row W g 0 _ _ _ h).trans rfl, (cell_of_row W g 1 _ _ _ h).trans rfl, (cell_of_row W g 2 _ _ _ h).trans rfl, (cell_of_row W g 3 _ _ _ h).trans rfl⟩

structure Command where
  Kind : Int
  Pid : Int
  Seq : Int
  Records : (List Record)
  Group : ByteArray
  Offset : Int
  Max : Int
  Now : Int
  Sum : Int
  Conf : Conf
def repCommand (W : World) (F : Foot) (x : Command) (cs : List Value) : Prop := ∃ (A3 : Option Addr) (c3 : Nat), cs = [.int .i64 x.Kind, .int .i64 x.Pid, .int .i64 x.Seq, .slice A3 x.Records.length c3, .string x.Group, .int .i64 x.Offset, .int .i64 x.Max, .int .i64 x.Now, .int .u32 x.Sum, .int .i64 x.Conf.Segment, .int .i64 x.Conf.Keep, .int .i64 x.Conf.Age, .int .i64 x.Conf.Grace] ∧ x.Records.length ≤ c3 ∧ c3 ≤ 9223372036854775807 ∧ RS kRecord W F A3 x.Records.length x.Records
def kCommand : Kind Command where
  size := 13
  pos := by omega
  rep := repCommand
  len := by rintro W F x cs h; obtain ⟨_, _, rfl, _, _, _⟩ := h; rfl
  one := by rintro W F x cs h u hu; obtain ⟨_, _, rfl, _, _, _⟩ := h; simp at hu; rcases hu with rfl | rfl | rfl | rfl | rfl | rfl | rfl | rfl | rfl | rfl | rfl | rfl | rfl <;> rfl
  mono := by rintro W F G x cs h hG; obtain ⟨A3, c3, rfl, l3, m3, r3⟩ := h; exact ⟨A3, c3, rfl, l3, m3, r3.mono hG⟩
  keep := by rintro W W1 F x cs h hk; obtain ⟨A3, c3, rfl, l3, m3, r3⟩ := h; exact ⟨A3, c3, rfl, l3, m3, r3.keep hk⟩
  bound := by rintro W F x cs h; obtain ⟨A3, c3, rfl, l3, m3, r3⟩ := h; exact ⟨A3, c3, rfl, l3, m3, r3.bound⟩
theorem at_Command {W : World} {F : Foot} {A : Option Addr} {n : Nat} {xs : List Command} (h : RS kCommand W F A n xs) {i : Nat} {x : Command} (hx : xs[i]? = some x) :
    ∃ (ad : Addr) (A3 : Option Addr) (c3 : Nat), A = some ad ∧ F ad.block ∧ W.cell? (ad.add (i * 13)) = some (.int .i64 x.Kind) ∧ W.cell? ⟨(ad.add (i * 13)).block, (ad.add (i * 13)).off + 1, none⟩ = some (.int .i64 x.Pid) ∧ W.cell? ⟨(ad.add (i * 13)).block, (ad.add (i * 13)).off + 2, none⟩ = some (.int .i64 x.Seq) ∧ W.cell? ⟨(ad.add (i * 13)).block, (ad.add (i * 13)).off + 3, none⟩ = some (.slice A3 x.Records.length c3) ∧ W.cell? ⟨(ad.add (i * 13)).block, (ad.add (i * 13)).off + 4, none⟩ = some (.string x.Group) ∧ W.cell? ⟨(ad.add (i * 13)).block, (ad.add (i * 13)).off + 5, none⟩ = some (.int .i64 x.Offset) ∧ W.cell? ⟨(ad.add (i * 13)).block, (ad.add (i * 13)).off + 6, none⟩ = some (.int .i64 x.Max) ∧ W.cell? ⟨(ad.add (i * 13)).block, (ad.add (i * 13)).off + 7, none⟩ = some (.int .i64 x.Now) ∧ W.cell? ⟨(ad.add (i * 13)).block, (ad.add (i * 13)).off + 8, none⟩ = some (.int .u32 x.Sum) ∧ W.cell? ⟨(ad.add (i * 13)).block, (ad.add (i * 13)).off + 9, none⟩ = some (.int .i64 x.Conf.Segment) ∧ W.cell? ⟨(ad.add (i * 13)).block, (ad.add (i * 13)).off + 10, none⟩ = some (.int .i64 x.Conf.Keep) ∧ W.cell? ⟨(ad.add (i * 13)).block, (ad.add (i * 13)).off + 11, none⟩ = some (.int .i64 x.Conf.Age) ∧ W.cell? ⟨(ad.add (i * 13)).block, (ad.add (i * 13)).off + 12, none⟩ = some (.int .i64 x.Conf.Grace) ∧ x.Records.length ≤ c3 ∧ c3 ≤ 9223372036854775807 ∧ RS kRecord W F A3 x.Records.length x.Records := by
  obtain ⟨ad, c, hA, hF, hr, hc⟩ := h.at_ hx
  obtain ⟨A3, c3, rfl, l3, m3, r3⟩ := hr
  exact ⟨ad, A3, c3, hA, hF, hc 0 _ rfl, (add_field ad (i * 13) 1 (by omega) ▸ hc 1 _ rfl), (add_field ad (i * 13) 2 (by omega) ▸ hc 2 _ rfl), (add_field ad (i * 13) 3 (by omega) ▸ hc 3 _ rfl), (add_field ad (i * 13) 4 (by omega) ▸ hc 4 _ rfl), (add_field ad (i * 13) 5 (by omega) ▸ hc 5 _ rfl), (add_field ad (i * 13) 6 (by omega) ▸ hc 6 _ rfl), (add_field ad (i * 13) 7 (by omega) ▸ hc 7 _ rfl), (add_field ad (i * 13) 8 (by omega) ▸ hc 8 _ rfl), (add_field ad (i * 13) 9 (by omega) ▸ hc 9 _ rfl), (add_field ad (i * 13) 10 (by omega) ▸ hc 10 _ rfl), (add_field ad (i * 13) 11 (by omega) ▸ hc 11 _ rfl), (add_field ad (i * 13) 12 (by omega) ▸ hc 12 _ rfl), l3, m3, r3⟩
theorem box_Command {W : World} {g : Nat} {x : Command} {A3 : Option Addr} {c3 : Nat} {fr : Nat × Nat} {t : TypeId} (h : W.heap[g]? = some (.cells #[.int .i64 x.Kind, .int .i64 x.Pid, .int .i64 x.Seq, .slice A3 x.Records.length c3, .string x.Group, .int .i64 x.Offset, .int .i64 x.Max, .int .i64 x.Now, .int .u32 x.Sum, .int .i64 x.Conf.Segment, .int .i64 x.Conf.Keep, .int .i64 x.Conf.Age, .int .i64 x.Conf.Grace] t fr)) : W.cell? ⟨g, 0, none⟩ = some (.int .i64 x.Kind) ∧ W.cell? ⟨g, 1, none⟩ = some (.int .i64 x.Pid) ∧ W.cell? ⟨g, 2, none⟩ = some (.int .i64 x.Seq) ∧ W.cell? ⟨g, 3, none⟩ = some (.slice A3 x.Records.length c3) ∧ W.cell? ⟨g, 4, none⟩ = some (.string x.Group) ∧ W.cell? ⟨g, 5, none⟩ = some (.int .i64 x.Offset) ∧ W.cell? ⟨g, 6, none⟩ = some (.int .i64 x.Max) ∧ W.cell? ⟨g, 7, none⟩ = some (.int .i64 x.Now) ∧ W.cell? ⟨g, 8, none⟩ = some (.int .u32 x.Sum) ∧ W.cell? ⟨g, 9, none⟩ = some (.int .i64 x.Conf.Segment) ∧ W.cell? ⟨g, 10, none⟩ = some (.int .i64 x.Conf.Keep) ∧ W.cell? ⟨g, 11, none⟩ = some (.int .i64 x.Conf.Age) ∧ W.cell? ⟨g, 12, none⟩ = some (.int .i64 x.Conf.Grace) :=
  ⟨(cell_of_row W g 0 _ _ _ h).trans rfl, (cell_of_row W g 1 _ _ _ h).trans rfl, (cell_of_row W g 2 _ _ _ h).trans rfl, (cell_of_row W g 3 _ _ _ h).trans rfl, (cell_of_row W g 4 _ _ _ h).trans rfl, (cell_of_row W g 5 _ _ _ h).trans rfl, (cell_of_row W g 6 _ _ _ h).trans rfl, (cell_of_row W g 7 _ _ _ h).trans rfl, (cell_of_row W g 8 _ _ _ h).trans rfl, (cell_of_row W g 9 _ _ _ h).trans rfl, (cell_of_row W g 10 _ _ _ h).trans rfl, (cell_of_row W g 11 _ _ _ h).trans rfl, (cell_of_row W g 12 _ _ _ h).trans rfl⟩

structure Event where
  Kind : Int
  Node : Int
  Message : Int
  Keep : Int
  What : Int
  Fault : (List Int)
  Cmd : Command
def repEvent (W : World) (F : Foot) (x : Event) (cs : List Value) : Prop := ∃ (A5 : Option Addr) (c5 : Nat) (A9 : Option Addr) (c9 : Nat), cs = [.int .i64 x.Kind, .int .i64 x.Node, .int .i64 x.Message, .int .i64 x.Keep, .int .i64 x.What, .slice A5 x.Fault.length c5, .int .i64 x.Cmd.Kind, .int .i64 x.Cmd.Pid, .int .i64 x.Cmd.Seq, .slice A9 x.Cmd.Records.length c9, .string x.Cmd.Group, .int .i64 x.Cmd.Offset, .int .i64 x.Cmd.Max, .int .i64 x.Cmd.Now, .int .u32 x.Cmd.Sum, .int .i64 x.Cmd.Conf.Segment, .int .i64 x.Cmd.Conf.Keep, .int .i64 x.Cmd.Conf.Age, .int .i64 x.Cmd.Conf.Grace] ∧ x.Fault.length ≤ c5 ∧ c5 ≤ 9223372036854775807 ∧ RS (kInt .i64) W F A5 x.Fault.length x.Fault ∧ x.Cmd.Records.length ≤ c9 ∧ c9 ≤ 9223372036854775807 ∧ RS kRecord W F A9 x.Cmd.Records.length x.Cmd.Records
def kEvent : Kind Event where
  size := 19
  pos := by omega
  rep := repEvent
  len := by rintro W F x cs h; obtain ⟨_, _, _, _, rfl, _, _, _, _, _, _⟩ := h; rfl
  one := by rintro W F x cs h u hu; obtain ⟨_, _, _, _, rfl, _, _, _, _, _, _⟩ := h; simp at hu; rcases hu with rfl | rfl | rfl | rfl | rfl | rfl | rfl | rfl | rfl | rfl | rfl | rfl | rfl | rfl | rfl | rfl | rfl | rfl | rfl <;> rfl
  mono := by rintro W F G x cs h hG; obtain ⟨A5, c5, A9, c9, rfl, l5, m5, r5, l9, m9, r9⟩ := h; exact ⟨A5, c5, A9, c9, rfl, l5, m5, r5.mono hG, l9, m9, r9.mono hG⟩
  keep := by rintro W W1 F x cs h hk; obtain ⟨A5, c5, A9, c9, rfl, l5, m5, r5, l9, m9, r9⟩ := h; exact ⟨A5, c5, A9, c9, rfl, l5, m5, r5.keep hk, l9, m9, r9.keep hk⟩
  bound := by rintro W F x cs h; obtain ⟨A5, c5, A9, c9, rfl, l5, m5, r5, l9, m9, r9⟩ := h; exact ⟨A5, c5, A9, c9, rfl, l5, m5, r5.bound, l9, m9, r9.bound⟩
theorem at_Event {W : World} {F : Foot} {A : Option Addr} {n : Nat} {xs : List Event} (h : RS kEvent W F A n xs) {i : Nat} {x : Event} (hx : xs[i]? = some x) :
    ∃ (ad : Addr) (A5 : Option Addr) (c5 : Nat) (A9 : Option Addr) (c9 : Nat), A = some ad ∧ F ad.block ∧ W.cell? (ad.add (i * 19)) = some (.int .i64 x.Kind) ∧ W.cell? ⟨(ad.add (i * 19)).block, (ad.add (i * 19)).off + 1, none⟩ = some (.int .i64 x.Node) ∧ W.cell? ⟨(ad.add (i * 19)).block, (ad.add (i * 19)).off + 2, none⟩ = some (.int .i64 x.Message) ∧ W.cell? ⟨(ad.add (i * 19)).block, (ad.add (i * 19)).off + 3, none⟩ = some (.int .i64 x.Keep) ∧ W.cell? ⟨(ad.add (i * 19)).block, (ad.add (i * 19)).off + 4, none⟩ = some (.int .i64 x.What) ∧ W.cell? ⟨(ad.add (i * 19)).block, (ad.add (i * 19)).off + 5, none⟩ = some (.slice A5 x.Fault.length c5) ∧ W.cell? ⟨(ad.add (i * 19)).block, (ad.add (i * 19)).off + 6, none⟩ = some (.int .i64 x.Cmd.Kind) ∧ W.cell? ⟨(ad.add (i * 19)).block, (ad.add (i * 19)).off + 7, none⟩ = some (.int .i64 x.Cmd.Pid) ∧ W.cell? ⟨(ad.add (i * 19)).block, (ad.add (i * 19)).off + 8, none⟩ = some (.int .i64 x.Cmd.Seq) ∧ W.cell? ⟨(ad.add (i * 19)).block, (ad.add (i * 19)).off + 9, none⟩ = some (.slice A9 x.Cmd.Records.length c9) ∧ W.cell? ⟨(ad.add (i * 19)).block, (ad.add (i * 19)).off + 10, none⟩ = some (.string x.Cmd.Group) ∧ W.cell? ⟨(ad.add (i * 19)).block, (ad.add (i * 19)).off + 11, none⟩ = some (.int .i64 x.Cmd.Offset) ∧ W.cell? ⟨(ad.add (i * 19)).block, (ad.add (i * 19)).off + 12, none⟩ = some (.int .i64 x.Cmd.Max) ∧ W.cell? ⟨(ad.add (i * 19)).block, (ad.add (i * 19)).off + 13, none⟩ = some (.int .i64 x.Cmd.Now) ∧ W.cell? ⟨(ad.add (i * 19)).block, (ad.add (i * 19)).off + 14, none⟩ = some (.int .u32 x.Cmd.Sum) ∧ W.cell? ⟨(ad.add (i * 19)).block, (ad.add (i * 19)).off + 15, none⟩ = some (.int .i64 x.Cmd.Conf.Segment) ∧ W.cell? ⟨(ad.add (i * 19)).block, (ad.add (i * 19)).off + 16, none⟩ = some (.int .i64 x.Cmd.Conf.Keep) ∧ W.cell? ⟨(ad.add (i * 19)).block, (ad.add (i * 19)).off + 17, none⟩ = some (.int .i64 x.Cmd.Conf.Age) ∧ W.cell? ⟨(ad.add (i * 19)).block, (ad.add (i * 19)).off + 18, none⟩ = some (.int .i64 x.Cmd.Conf.Grace) ∧ x.Fault.length ≤ c5 ∧ c5 ≤ 9223372036854775807 ∧ RS (kInt .i64) W F A5 x.Fault.length x.Fault ∧ x.Cmd.Records.length ≤ c9 ∧ c9 ≤ 9223372036854775807 ∧ RS kRecord W F A9 x.Cmd.Records.length x.Cmd.Records := by
  obtain ⟨ad, c, hA, hF, hr, hc⟩ := h.at_ hx
  obtain ⟨A5, c5, A9, c9, rfl, l5, m5, r5, l9, m9, r9⟩ := hr
  exact ⟨ad, A5, c5, A9, c9, hA, hF, hc 0 _ rfl, (add_field ad (i * 19) 1 (by omega) ▸ hc 1 _ rfl), (add_field ad (i * 19) 2 (by omega) ▸ hc 2 _ rfl), (add_field ad (i * 19) 3 (by omega) ▸ hc 3 _ rfl), (add_field ad (i * 19) 4 (by omega) ▸ hc 4 _ rfl), (add_field ad (i * 19) 5 (by omega) ▸ hc 5 _ rfl), (add_field ad (i * 19) 6 (by omega) ▸ hc 6 _ rfl), (add_field ad (i * 19) 7 (by omega) ▸ hc 7 _ rfl), (add_field ad (i * 19) 8 (by omega) ▸ hc 8 _ rfl), (add_field ad (i * 19) 9 (by omega) ▸ hc 9 _ rfl), (add_field ad (i * 19) 10 (by omega) ▸ hc 10 _ rfl), (add_field ad (i * 19) 11 (by omega) ▸ hc 11 _ rfl), (add_field ad (i * 19) 12 (by omega) ▸ hc 12 _ rfl), (add_field ad (i * 19) 13 (by omega) ▸ hc 13 _ rfl), (add_field ad (i * 19) 14 (by omega) ▸ hc 14 _ rfl), (add_field ad (i * 19) 15 (by omega) ▸ hc 15 _ rfl), (add_field ad (i * 19) 16 (by omega) ▸ hc 16 _ rfl), (add_field ad (i * 19) 17 (by omega) ▸ hc 17 _ rfl), (add_field ad (i * 19) 18 (by omega) ▸ hc 18 _ rfl), l5, m5, r5, l9, m9, r9⟩
theorem box_Event {W : World} {g : Nat} {x : Event} {A5 : Option Addr} {c5 : Nat} {A9 : Option Addr} {c9 : Nat} {fr : Nat × Nat} {t : TypeId} (h : W.heap[g]? = some (.cells #[.int .i64 x.Kind, .int .i64 x.Node, .int .i64 x.Message, .int .i64 x.Keep, .int .i64 x.What, .slice A5 x.Fault.length c5, .int .i64 x.Cmd.Kind, .int .i64 x.Cmd.Pid, .int .i64 x.Cmd.Seq, .slice A9 x.Cmd.Records.length c9, .string x.Cmd.Group, .int .i64 x.Cmd.Offset, .int .i64 x.Cmd.Max, .int .i64 x.Cmd.Now, .int .u32 x.Cmd.Sum, .int .i64 x.Cmd.Conf.Segment, .int .i64 x.Cmd.Conf.Keep, .int .i64 x.Cmd.Conf.Age, .int .i64 x.Cmd.Conf.Grace] t fr)) : W.cell? ⟨g, 0, none⟩ = some (.int .i64 x.Kind) ∧ W.cell? ⟨g, 1, none⟩ = some (.int .i64 x.Node) ∧ W.cell? ⟨g, 2, none⟩ = some (.int .i64 x.Message) ∧ W.cell? ⟨g, 3, none⟩ = some (.int .i64 x.Keep) ∧ W.cell? ⟨g, 4, none⟩ = some (.int .i64 x.What) ∧ W.cell? ⟨g, 5, none⟩ = some (.slice A5 x.Fault.length c5) ∧ W.cell? ⟨g, 6, none⟩ = some (.int .i64 x.Cmd.Kind) ∧ W.cell? ⟨g, 7, none⟩ = some (.int .i64 x.Cmd.Pid) ∧ W.cell? ⟨g, 8, none⟩ = some (.int .i64 x.Cmd.Seq) ∧ W.cell? ⟨g, 9, none⟩ = some (.slice A9 x.Cmd.Records.length c9) ∧ W.cell? ⟨g, 10, none⟩ = some (.string x.Cmd.Group) ∧ W.cell? ⟨g, 11, none⟩ = some (.int .i64 x.Cmd.Offset) ∧ W.cell? ⟨g, 12, none⟩ = some (.int .i64 x.Cmd.Max) ∧ W.cell? ⟨g, 13, none⟩ = some (.int .i64 x.Cmd.Now) ∧ W.cell? ⟨g, 14, none⟩ = some (.int .u32 x.Cmd.Sum) ∧ W.cell? ⟨g, 15, none⟩ = some (.int .i64 x.Cmd.Conf.Segment) ∧ W.cell? ⟨g, 16, none⟩ = some (.int .i64 x.Cmd.Conf.Keep) ∧ W.cell? ⟨g, 17, none⟩ = some (.int .i64 x.Cmd.Conf.Age) ∧ W.cell? ⟨g, 18, none⟩ = some (.int .i64 x.Cmd.Conf.Grace) :=
  ⟨(cell_of_row W g 0 _ _ _ h).trans rfl, (cell_of_row W g 1 _ _ _ h).trans rfl, (cell_of_row W g 2 _ _ _ h).trans rfl, (cell_of_row W g 3 _ _ _ h).trans rfl, (cell_of_row W g 4 _ _ _ h).trans rfl, (cell_of_row W g 5 _ _ _ h).trans rfl, (cell_of_row W g 6 _ _ _ h).trans rfl, (cell_of_row W g 7 _ _ _ h).trans rfl, (cell_of_row W g 8 _ _ _ h).trans rfl, (cell_of_row W g 9 _ _ _ h).trans rfl, (cell_of_row W g 10 _ _ _ h).trans rfl, (cell_of_row W g 11 _ _ _ h).trans rfl, (cell_of_row W g 12 _ _ _ h).trans rfl, (cell_of_row W g 13 _ _ _ h).trans rfl, (cell_of_row W g 14 _ _ _ h).trans rfl, (cell_of_row W g 15 _ _ _ h).trans rfl, (cell_of_row W g 16 _ _ _ h).trans rfl, (cell_of_row W g 17 _ _ _ h).trans rfl, (cell_of_row W g 18 _ _ _ h).trans rfl⟩

structure SAct where
  Way : Int
  P : ByteArray
  B : (List Int)
  L : (List Int)
def repSAct (W : World) (F : Foot) (x : SAct) (cs : List Value) : Prop := ∃ (A2 : Option Addr) (c2 : Nat) (A3 : Option Addr) (c3 : Nat), cs = [.int .i64 x.Way, .string x.P, .slice A2 x.B.length c2, .slice A3 x.L.length c3] ∧ x.B.length ≤ c2 ∧ c2 ≤ 9223372036854775807 ∧ RS (kInt .u8) W F A2 x.B.length x.B ∧ x.L.length ≤ c3 ∧ c3 ≤ 9223372036854775807 ∧ RS (kInt .i64) W F A3 x.L.length x.L
def kSAct : Kind SAct where
  size := 4
  pos := by omega
  rep := repSAct
  len := by rintro W F x cs h; obtain ⟨_, _, _, _, rfl, _, _, _, _, _, _⟩ := h; rfl
  one := by rintro W F x cs h u hu; obtain ⟨_, _, _, _, rfl, _, _, _, _, _, _⟩ := h; simp at hu; rcases hu with rfl | rfl | rfl | rfl <;> rfl
  mono := by rintro W F G x cs h hG; obtain ⟨A2, c2, A3, c3, rfl, l2, m2, r2, l3, m3, r3⟩ := h; exact ⟨A2, c2, A3, c3, rfl, l2, m2, r2.mono hG, l3, m3, r3.mono hG⟩
  keep := by rintro W W1 F x cs h hk; obtain ⟨A2, c2, A3, c3, rfl, l2, m2, r2, l3, m3, r3⟩ := h; exact ⟨A2, c2, A3, c3, rfl, l2, m2, r2.keep hk, l3, m3, r3.keep hk⟩
  bound := by rintro W F x cs h; obtain ⟨A2, c2, A3, c3, rfl, l2, m2, r2, l3, m3, r3⟩ := h; exact ⟨A2, c2, A3, c3, rfl, l2, m2, r2.bound, l3, m3, r3.bound⟩
theorem at_SAct {W : World} {F : Foot} {A : Option Addr} {n : Nat} {xs : List SAct} (h : RS kSAct W F A n xs) {i : Nat} {x : SAct} (hx : xs[i]? = some x) :
    ∃ (ad : Addr) (A2 : Option Addr) (c2 : Nat) (A3 : Option Addr) (c3 : Nat), A = some ad ∧ F ad.block ∧ W.cell? (ad.add (i * 4)) = some (.int .i64 x.Way) ∧ W.cell? ⟨(ad.add (i * 4)).block, (ad.add (i * 4)).off + 1, none⟩ = some (.string x.P) ∧ W.cell? ⟨(ad.add (i * 4)).block, (ad.add (i * 4)).off + 2, none⟩ = some (.slice A2 x.B.length c2) ∧ W.cell? ⟨(ad.add (i * 4)).block, (ad.add (i * 4)).off + 3, none⟩ = some (.slice A3 x.L.length c3) ∧ x.B.length ≤ c2 ∧ c2 ≤ 9223372036854775807 ∧ RS (kInt .u8) W F A2 x.B.length x.B ∧ x.L.length ≤ c3 ∧ c3 ≤ 9223372036854775807 ∧ RS (kInt .i64) W F A3 x.L.length x.L := by
  obtain ⟨ad, c, hA, hF, hr, hc⟩ := h.at_ hx
  obtain ⟨A2, c2, A3, c3, rfl, l2, m2, r2, l3, m3, r3⟩ := hr
  exact ⟨ad, A2, c2, A3, c3, hA, hF, hc 0 _ rfl, (add_field ad (i * 4) 1 (by omega) ▸ hc 1 _ rfl), (add_field ad (i * 4) 2 (by omega) ▸ hc 2 _ rfl), (add_field ad (i * 4) 3 (by omega) ▸ hc 3 _ rfl), l2, m2, r2, l3, m3, r3⟩
theorem box_SAct {W : World} {g : Nat} {x : SAct} {A2 : Option Addr} {c2 : Nat} {A3 : Option Addr} {c3 : Nat} {fr : Nat × Nat} {t : TypeId} (h : W.heap[g]? = some (.cells #[.int .i64 x.Way, .string x.P, .slice A2 x.B.length c2, .slice A3 x.L.length c3] t fr)) : W.cell? ⟨g, 0, none⟩ = some (.int .i64 x.Way) ∧ W.cell? ⟨g, 1, none⟩ = some (.string x.P) ∧ W.cell? ⟨g, 2, none⟩ = some (.slice A2 x.B.length c2) ∧ W.cell? ⟨g, 3, none⟩ = some (.slice A3 x.L.length c3) :=
  ⟨(cell_of_row W g 0 _ _ _ h).trans rfl, (cell_of_row W g 1 _ _ _ h).trans rfl, (cell_of_row W g 2 _ _ _ h).trans rfl, (cell_of_row W g 3 _ _ _ h).trans rfl⟩

end Go.Proofs.YtngmipppgnlkdaaDoor
