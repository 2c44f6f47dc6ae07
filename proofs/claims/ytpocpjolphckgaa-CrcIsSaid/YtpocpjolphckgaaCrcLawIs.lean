/-
  CrcIs' walk: both sides reckon CrcPlain's 'stp', 'upd', 'sum'.
-/
import Derived.Test.YtpocpjolphckgaaCrcAwake
import Derived.Test.YtpocpjolphckgaaCrcRef
namespace Go.Proofs.Ytpocpjolphckgaa
open Go.RowKit
open CrcP
set_option linter.unusedVariables false
theorem update_nat (c : Nat) (A : Option Addr) (n cap : Nat) (l : List UInt8) (w : World) (h : c < 4294967296) (hn : n ≤ 9223372036854775807) (hb : Bs w w.heap.size A n l) :
    Calls Try.prog 12 #[.int .u32 c, .slice A n cap] w fun e w' => e = .returned (.int .u32 (upd c (nats l) : Nat)) ∧ Below w.heap.size w w' :=
  update_any c A n cap l w (by omega) (by omega) hn hb
set_option maxRecDepth 100000 in
set_option maxHeartbeats 400000 in
theorem crcIs_walk (w : World) (c : Nat) (hc : c < 4294967296) (x : Nat) (hx : x < 256) (A : Option Addr) (n cap : Nat) (l : List UInt8) (hb : Bs w w.heap.size A n l) (hcap : n ≤ cap) (hm : cap ≤ 9223372036854775807) :
    Calls Try.prog 3 #[.int .u32 c, .int .u8 x, .slice A n cap] w fun e w' => e = .returned (.bool true) ∧ Below w.heap.size w w' := by
  by_cases hn : n ≤ 1000
  · go_enter Try.func3, Try.ntmps3
    go_wp2_with fail
    refine (awake_any _).mono ?_
    rintro e w1 ⟨rfl, hb1⟩
    go_wp2_with fail
    refine (step_nat c x hc hx _).mono ?_
    rintro e w2 ⟨rfl, rfl⟩
    go_wp2_with fail
    refine (rstep_nat c x hc hx _).mono ?_
    rintro e w2 ⟨rfl, rfl⟩
    have hbs1 := (hb.below hb1).more hb1.size
    generalize stp c x = S
    go_wp2_with fail
    refine (update_nat c _ _ _ l _ hc (by omega) hbs1).mono ?_
    rintro e w2 ⟨rfl, hb2⟩
    go_wp2_with fail
    refine (rupdate_any c _ _ _ l _ hc (by omega) (hbs1.below hb2)).mono ?_
    rintro e w3 ⟨rfl, rfl⟩
    generalize upd c (nats l) = U
    have hbs2 := (hbs1.below hb2).more hb2.size
    go_wp2_with fail
    refine (sum_any _ _ _ l _ (by omega) hbs2).mono ?_
    rintro e w3 ⟨rfl, hb3⟩
    go_wp2_with fail
    refine (rsum_any _ _ _ l _ (by omega) (hbs2.below hb3)).mono ?_
    rintro e w4 ⟨rfl, rfl⟩
    generalize sum (nats l) = M
    go_wp2
    go_ret
    exact ⟨by simp, (hb1.trans (hb2.mono hb1.size)).trans (hb3.mono (by have := hb1.size; have := hb2.size; omega))⟩
  · have hn' : 1000 < n := by omega
    go_enter Try.func3, Try.ntmps3
    go_wp2_with fail
    refine (awake_any _).mono ?_
    rintro e w1 ⟨rfl, hb1⟩
    go_wp2
    go_ret
    exact ⟨rfl, hb1⟩
end Go.Proofs.Ytpocpjolphckgaa
