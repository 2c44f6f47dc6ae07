/-
  THE LAWS' 'awake' (package watchtowerlaw04) returns true: the document's examples.
-/
import Derived.Test.YtpocpjolphckgaaCrcSums
import Derived.Lib.SlBytesConst
namespace Go.Proofs.Ytpocpjolphckgaa
open Go.RowKit
open CrcP
theorem ex_sum : sum (nats [49, 50, 51, 52, 53, 54, 55, 56, 57]) = 3421780262 := by decide +kernel
theorem ex_nil : sum (nats []) = 0 := by decide +kernel
theorem ex_step : stp 1 0 = 1996959894 := by decide +kernel
set_option maxRecDepth 100000 in
set_option maxHeartbeats 400000 in
theorem awake_any (w : World) : Calls Try.prog 9 #[] w fun e w' => e = .returned (.bool true) ∧ Below w.heap.size w w' := by
  have kc := fun (w : World) (C : Array Value) (n c : Nat) => Lib.run_convert_bytes_const (P := Try.prog) w 23 5 C n c Try.underlying23 Try.underlying5
  go_enter Try.func9, Try.ntmps9
  go_wp2_with fail
  refine (sum_any _ 9 9 [49, 50, 51, 52, 53, 54, 55, 56, 57] _ (by omega) (Bs.fresh _ _ _ _ _ _ rfl rfl)).mono ?_
  rintro e w1 ⟨rfl, hb1⟩
  rw [ex_sum]
  go_wp2_with fail
  refine (sum_any _ _ _ [] _ (by omega) (Bs.nil_ _ _ _)).mono ?_
  rintro e w2 ⟨rfl, hb2⟩
  rw [ex_nil]
  go_wp2_with fail
  refine (step_any _ _ (by omega) (by omega) (by omega) (by omega) _).mono ?_
  rintro e w' ⟨rfl, rfl⟩
  rw [show stp (1 : Int).toNat (0 : Int).toNat = 1996959894 from ex_step]
  go_wp2
  go_ret
  exact ⟨rfl, ((Below.refl _ _).alloc (Nat.le_refl _) _).trans ((hb1.mono (by simp)).trans (hb2.mono (by have := hb1.size; simp at this; omega)))⟩
end Go.Proofs.Ytpocpjolphckgaa
