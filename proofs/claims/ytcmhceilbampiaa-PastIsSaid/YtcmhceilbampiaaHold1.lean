/-
  THE WALKS OF PACKAGE hold, the small ones: 'time', 'Sane', 'counted', 'bounded'.
-/
import Derived.Test.YtcmhceilbampiaaChecked
import Derived.Test.YtcmhceilbampiaaHoldPlain
import Derived.Test.YtcmhceilbampiaaMem
import Derived.WalkKit
import Derived.Lib.Hide
import Derived.WalkLawsBesides
import Derived.BigQuiet
import Derived.Deep.QuietTactic
import Derived.Outline
namespace Go.Proofs.Ytcmhceilbampiaa
open Go.RowKit
open HoldP
/-- A hold as a value. -/
def hv (h : Hd) : Array Value := #[.bool h.on, .int .i64 h.since, .bool h.hit, .int .i64 h.fired]
theorem ret_bool {a b : Bool} (h : a = b) : Ending.returned (.bool a) = .returned (.bool b) := by rw [h]
theorem ret_int {k : IntKind} {a b : Int} (h : a = b) : Ending.returned (.int k a) = .returned (.int k b) := by rw [h]
set_option maxRecDepth 100000 in
set_option maxHeartbeats 400000 in
theorem time_any (t : Int) (w : World) : Calls Try.prog 40 #[.int .i64 t] w fun e w' => e = .returned (.bool (isT t)) ∧ w = w' := by
  by_cases h1 : 0 ≤ t
  · by_cases h2 : t ≤ 9007199254740992
    · go_enter Try.func40, Try.ntmps40
      go_wp2
      go_ret
      exact ⟨ret_bool (by simp [isT, h1, h2]), rfl⟩
    · go_enter Try.func40, Try.ntmps40
      go_wp2
      go_ret
      exact ⟨ret_bool (by simp [isT, h1]; omega), rfl⟩
  · go_enter Try.func40, Try.ntmps40
    go_wp2
    go_ret
    exact ⟨ret_bool (by simp [isT]; omega), rfl⟩
set_option maxRecDepth 100000 in
set_option maxHeartbeats 800000 in
theorem sane_any (o : Bool) (s : Int) (i : Bool) (f : Int) (w : World) : Calls Try.prog 19 #[.agg #[.bool o, .int .i64 s, .bool i, .int .i64 f]] w fun e w' => e = .returned (.bool (saneH ⟨o, s, i, f⟩)) ∧ Below w.heap.size w w' := by
  have HS := Lib.hid (show saneH ⟨o, s, i, f⟩ = (isT s && isT f && (o || s == 0) && (i || f == 0)) from rfl)
  cases h1 : isT s
  · go_enter Try.func19, Try.ntmps19
    go_wp2_with fail
    refine (time_any _ _).mono ?_
    rintro e w' ⟨rfl, rfl⟩
    go_wp2
    go_ret
    exact ⟨ret_bool (by rw [HS.out, h1]; rfl), (Below.refl _ _).alloc (Nat.le_refl _) _⟩
  · cases h2 : isT f
    · go_enter Try.func19, Try.ntmps19
      go_wp2_with fail
      refine (time_any _ _).mono ?_
      rintro e w' ⟨rfl, rfl⟩
      go_wp2_with fail
      refine (time_any _ _).mono ?_
      rintro e w' ⟨rfl, rfl⟩
      go_wp2
      go_ret
      exact ⟨ret_bool (by rw [HS.out, h1, h2]; rfl), (Below.refl _ _).alloc (Nat.le_refl _) _⟩
    · cases o <;> cases i
      all_goals
        cases e1 : (s == 0) <;> cases e2 : (f == 0)
      all_goals
        go_enter Try.func19, Try.ntmps19
        go_wp2_with fail
        refine (time_any _ _).mono ?_
        rintro e w' ⟨rfl, rfl⟩
        go_wp2_with fail
        refine (time_any _ _).mono ?_
        rintro e w' ⟨rfl, rfl⟩
        go_wp2
        go_ret
        exact ⟨ret_bool (by rw [HS.out, h1, h2]; simp_all), (Below.refl _ _).alloc (Nat.le_refl _) _⟩
end Go.Proofs.Ytcmhceilbampiaa
