/- The laws' own 'alive' of chapter 17. -/
import Derived.Test.YtngmipppgnlkdaaC
import Derived.Test.YtngmipppgnlkdaaD
import Derived.Test.YtngmipppgnlkdaaE
import Derived.Test.YtngmipppgnlkdaaF
import Derived.Test.YtngmipppgnlkdaaH
import Derived.Test.YtngmipppgnlkdaaI
set_option linter.unusedVariables false
set_option linter.unusedSimpArgs false
namespace Go.Proofs.Ytngmipppgnlkdaa
open Go.RowKit

def bytes0 : ByteArray := ⟨#[]⟩
def conf0 : Conf := ⟨0, 0, 0, 0⟩
def command0 : Command := ⟨0, 0, 0, [], bytes0, 0, 0, 0, 0, conf0⟩
def log0 : LogS := ⟨0, 0, []⟩
theorem log0_ok : log0.Ok := ⟨Int.le_refl _, by decide, by decide, fun x hx => by simp [log0] at hx⟩
theorem LogAt.new (w : World) : LogAt (w.alloc (.cells #[.int .i64 0, .int .i64 0, .slice none 0 0] 29)) w.heap.size (fun k => k = w.heap.size) log0 :=
  ⟨_, heap_alloc_new w _, rfl, OwnS.nil⟩

set_option maxHeartbeats 1000000 in
theorem alive_any (w : World) : Calls Try.prog 10 #[] w fun e w' => e = .returned (.bool true) ∧ Below w.heap.size w w' := by
  go_enter Try.func10, Try.ntmps10
  go_wp2_with fail
  have hL := LogAt.new w
  have hb : Below w.heap.size w (w.alloc (.cells #[.int .i64 0, .int .i64 0, .slice none 0 0] 29)) := (Below.refl _ _).alloc (Nat.le_refl _) _
  generalize w.alloc (.cells #[.int .i64 0, .int .i64 0, .slice none 0 0] 29) = w1 at hL hb ⊢
  refine (Add_any w.heap.size _ NoF log0 ⟨2, command0⟩ none 0 w1 hL log0_ok (by decide) (by decide) (by decide) RS.nil (by decide)).mono ?_
  rintro e w2 ⟨rfl, hL2, hk2⟩
  rw [show (log0.add ⟨2, command0⟩).last = 1 from rfl]
  have hok : (log0.add ⟨2, command0⟩).Ok := ⟨Int.le_refl _, by decide, by decide, fun x hx => by simp [log0, LogS.add] at hx; subst hx; decide⟩
  go_wp2_with fail
  refine (Last_any _ _ _ _ hL2 hok).mono ?_
  rintro e w3 ⟨rfl, k3, rfl⟩
  rw [show (log0.add ⟨2, command0⟩).Last = (1, 2) from by decide]
  go_wp2
  go_ret
  have hb2 : Below w.heap.size w w2 := hb.trans (hk2.below_of (hb.size) (fun k hk => by omega))
  exact ⟨rfl, hb2.trans ((drawn_below w2 k3).mono hb2.size)⟩
end Go.Proofs.Ytngmipppgnlkdaa
