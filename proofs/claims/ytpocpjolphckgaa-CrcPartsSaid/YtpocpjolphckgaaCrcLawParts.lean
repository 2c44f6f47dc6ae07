/-
  CrcParts' walk: the last test draws its order: two cuts beside six calls.
-/
import Derived.Test.YtpocpjolphckgaaCrcAwake
import Derived.Test.YtpocpjolphckgaaCut
import Derived.Deep.RegionHeld3
namespace Go.Proofs.Ytpocpjolphckgaa
open Go.RowKit
open CrcP
set_option linter.unusedVariables false
theorem sizeU8 : (Try.prog.info? 5).map (·.size) = some 1 := by kernel_rfl
theorem Bs.now {w1 W : World} {A : Option Addr} {n : Nat} {l : List UInt8} (h : Bs w1 w1.heap.size A n l) (hb : Below w1.heap.size w1 W) : Bs W W.heap.size A n l := (h.below hb).more hb.size
theorem update_nat (c : Nat) (A : Option Addr) (n cap : Nat) (l : List UInt8) (w : World) (h : c < 4294967296) (hn : n ≤ 9223372036854775807) (hb : Bs w w.heap.size A n l) :
    Calls Try.prog 12 #[.int .u32 c, .slice A n cap] w fun e w' => e = .returned (.int .u32 (upd c (nats l) : Nat)) ∧ Below w.heap.size w w' :=
  update_any c A n cap l w (by omega) (by omega) hn hb
set_option maxRecDepth 100000 in
set_option maxHeartbeats 400000 in
theorem crcParts_walk (w : World) (c : Nat) (hc : c < 4294967296) (A : Option Addr) (n cap : Nat) (l : List UInt8) (hb : Bs w w.heap.size A n l) (hcap : n ≤ cap) (hm : cap ≤ 9223372036854775807) (k : Int) (hk1 : -9223372036854775808 ≤ k) (hk2 : k ≤ 9223372036854775807) :
    Calls Try.prog 4 #[.int .u32 c, .slice A n cap, .int .i64 k] w fun e w' => e = .returned (.bool true) ∧ Below w.heap.size w w' := by
  by_cases hn : n ≤ 1000
  · obtain ⟨m, hmask, hm'⟩ := and_mask k 65535 (by omega)
    have hmask' : bits .and .i64 k 65535 = (m : Int) := hmask
    clear hmask
    have hmod := mod_nat m n
    have hat : m % (n + 1) ≤ n := by have := Nat.mod_lt m (show 0 < n + 1 by omega); omega
    generalize m % (n + 1) = at_ at hmod hat
    have hc2 := Lib.hid hc
    have hl2 := upd_lt hc (nats_lt l)
    have hl3 := upd_lt hc (nats_lt (l.take at_))
    have hcat : Hid (upd (upd c (nats (l.take at_))) (nats (l.drop at_)) = upd c (nats l)) := by
      show upd _ _ = _
      rw [← upd_append, ← nats_append, List.take_append_drop]
    go_enter Try.func4, Try.ntmps4
    go_wp2_with fail
    refine (awake_any _).mono ?_
    rintro e w1 ⟨rfl, hb1⟩
    have hbs := (hb.below hb1).more hb1.size
    have HB := Lib.hid hbs
    have HB1 := Lib.hid (hbs.hi hat)
    have HB2 := Lib.hid (hbs.lo hat hcap)
    have r1 := run_cut_hi Try.underlying23 1 sizeU8 A n cap at_ (by omega)
    have r2 := run_cut_lo Try.underlying23 1 sizeU8 A n cap at_ hat
    generalize cutAt A cap at_ 1 = A2 at HB2 r2
    clear hbs hb
    go_wp2_with fail
    rw [hmod]
    clear hmod hmask' hm'
    have hle : n ≤ 9223372036854775807 := by omega
    have hle1 : at_ ≤ 9223372036854775807 := by omega
    have hle2 : n - at_ ≤ 9223372036854775807 := by omega
    have HN : Hid (upd c (nats []) = c) := rfl
    have HG : Hid (upd (4294967295 : Int).toNat (nats l) = upd 4294967295 (nats l)) := rfl
    go_region_held3 (fun w' => Below w1.heap.size w1 w') (first | exact (Below.refl _ _).drew | exact Below.step (by assumption) (by assumption))
      ((first
        | (go_at_call_of 12 (Value.slice A at_ cap); refine (update_nat c A at_ cap (l.take at_) _ hc2.out hle1 (Bs.now HB1.out (by assumption))).mono ?_; rintro e w' ⟨rfl, hb'⟩)
        | (go_at_call_of 12 (Value.slice A2 (n - at_) (cap - at_)); refine (update_nat _ A2 (n - at_) (cap - at_) (l.drop at_) _ hl3 hle2 (Bs.now HB2.out (by assumption))).mono ?_; rintro e w' ⟨rfl, hb'⟩; rw [hcat.out])
        | (go_at_call_of 12 (Value.slice none 0 0); refine (update_nat c none 0 0 [] _ hc2.out (by omega) (Bs.nil_ _ _ _)).mono ?_; rintro e w' ⟨rfl, hb'⟩; rw [HN.out])
        | (go_at_call_of 12 (Value.int .u32 4294967295); refine (update_any 4294967295 A n cap l _ (by omega) (by omega) hle (Bs.now HB.out (by assumption))).mono ?_; rintro e w' ⟨rfl, hb'⟩; rw [HG.out])
        | (go_at_call_of 12 (Value.slice A n cap); refine (update_nat c A n cap l _ hc2.out hle (Bs.now HB.out (by assumption))).mono ?_; rintro e w' ⟨rfl, hb'⟩)
        | (go_at_call 14; refine (sum_any A n cap l _ hle (Bs.now HB.out (by assumption))).mono ?_; rintro e w' ⟨rfl, hb'⟩)))
    go_wp2
    go_ret
    have hF := crc_not _ (upd_lt (c := 4294967295) (l := nats l) (by omega) (nats_lt _))
    refine ⟨?_, hb1.trans (Below.mono (by assumption : Below w1.heap.size w1 w') hb1.size)⟩
    show Ending.returned (Value.bool (((sum (nats l) : Nat) : Int) == bits BinOp.xor IntKind.u32 IntKind.u32.max ((upd 4294967295 (nats l) : Nat) : Int))) = _
    rw [hF]
    have hE : (4294967295 ^^^ upd 4294967295 (nats l)) = sum (nats l) := rfl
    rw [hE]
    simp
  · have hn' : 1000 < n := by omega
    go_enter Try.func4, Try.ntmps4
    go_wp2_with fail
    refine (awake_any _).mono ?_
    rintro e w1 ⟨rfl, hb1⟩
    go_wp2
    go_ret
    exact ⟨rfl, hb1⟩
end Go.Proofs.Ytpocpjolphckgaa
