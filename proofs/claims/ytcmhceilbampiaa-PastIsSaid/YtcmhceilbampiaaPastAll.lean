/-
  THE PAST's WALKS: All.
-/
import Derived.Test.YtcmhceilbampiaaPastAt
namespace Go.Proofs.Ytcmhceilbampiaa
open Go.RowKit
open HoldP
open PastP
set_option linter.unusedVariables false
/-- What the alert is at each of the first m places. -/
noncomputable def allL (T : Nat → Int) (C : Nat → Bool) (w k : Int) (m : Nat) : List Int := (List.range m).map fun i => atP T C w k i
theorem allL_len (T : Nat → Int) (C : Nat → Bool) (w k : Int) (m : Nat) : (allL T C w k m).length = m := by simp [allL]
theorem allL_succ (T : Nat → Int) (C : Nat → Bool) (w k : Int) (m : Nat) : allL T C w k (m + 1) = allL T C w k m ++ [atP T C w k m] := by simp [allL, List.range_succ]
theorem allL_get (T : Nat → Int) (C : Nat → Bool) (w k : Int) (m i : Nat) (h : i < m) : (allL T C w k m)[i]? = some (atP T C w k i) := by simp [allL, h]
theorem infoI1 : (Try.prog.info? 3).map (fun i => (i.zero, i.size, i.bytes)) = some (some (.int .i64 0), 1, 8) := by kernel_rfl
/-- A row of the call's own that holds what the alert is. -/
def OwnI (w : World) (base : Nat) (v : Value) (l : List Int) : Prop := Own1 w base 3 (fun z : Int => .int .i64 z) v l
set_option maxRecDepth 100000 in
set_option maxHeartbeats 1600000 in
theorem pall_any (A : Option Addr) (n cap : Nat) (T : Nat → Int) (C : Nat → Bool) (wt k : Int) (w : World) (hn : n ≤ 9223372036854775807) (hc : n ≤ cap) (hcap : cap ≤ 9223372036854775807) (hb : Ps w w.heap.size A n T C) :
    Calls Try.prog 34 #[.slice A n cap, .int .i64 wt, .int .i64 k] w fun e w' => (∃ v, e = .returned v ∧ OwnI w' w.heap.size v (allL T C (clT wt) (clT k) (cntN n T))) ∧ Below w.heap.size w w' := by
  have hHb := Lib.hid hb; clear hb
  have hSN := sane_cntN n T
  go_enter Try.func34, Try.ntmps34
  go_wp2_with fail
  refine (pcnt_any A n cap T C _ hn hc hcap w.heap.size (Nat.le_refl _) hHb.out).mono ?_
  rintro e w1 ⟨⟨A', cap', rfl, hps, hc', hcap''⟩, hb1⟩
  have h200 : cntN n T ≤ 200 := hSN.1
  have hidem0 : cntN (cntN n T) T = cntN n T := cntN_of hSN
  generalize hNN : cntN n T = N at hps hc' h200 hidem0 ⊢
  have HNN := Lib.hid hNN; clear hNN
  have hidem := Lib.hid hidem0; clear hidem0
  have hPs := Lib.hid hps; clear hps hHb hSN
  go_wp2
  go_loopw [7, 13] (fun vo i wr => ∃ m : Nat, m ≤ N ∧ i = .int .i64 m ∧ OwnI wr w1.heap.size vo (allL T C (clT wt) (clT k) m) ∧ Below w1.heap.size w1 wr) (fun _ i _ => N - (intOf i).toNat)
  case atStart => exact ⟨0, by omega, rfl, Own1.nil_ _ _ _ _, Below.refl _ _⟩
  case round =>
    obtain ⟨m, hm, rfl, hown, hB⟩ := hrel
    have hO := Lib.hid hown; clear hown
    by_cases hlt : m < N
    · go_wp2_with fail
      refine (pat_any A' N cap' T C wt k m _ (by omega) hc' hcap'' w.heap.size (by have := hb1.size; have := hB.size; omega) (hPs.out.below (hB.mono hb1.size))).mono ?_
      rintro e w2 ⟨rfl, hb2⟩
      have HV := Lib.hid (atV_at (n := N) (T := T) (C := C) (w := wt) (k := k) (I := m) (by rw [hidem.out]; exact hlt))
      rw [HV.out]
      have HS := Lib.hid (allL_succ T C (clT wt) (clT k) m)
      have HL := Lib.hid (allL_len T C (clT wt) (clT k) m)
      generalize atP T C (clT wt) (clT k) m = z at HS ⊢
      have hO2 := Lib.hid ((Own1.below hO.out hb2).alloc (.cells #[.int .i64 z] 3))
      have HLit := Lib.hid (Blk.new w2 3 #[.int .i64 z])
      have hB2 := hB.trans (hb2.mono hB.size)
      have hz2 := hb2.size
      go_wp2_with ((refine wpList_append_1 (by rfl) (.tmp 16) (.tmp 22) 41 (by rfl) w1.heap.size 3 (.int .i64 0) 8 Try.underlying41 infoI1 rfl (fun z : Int => .int .i64 z) _ (allL T C (clT wt) (clT k) m) (by rfl) hO2.out z rfl w2.heap.size 1 3 (by rfl) HLit.out (by rw [HL.out]; omega) (by rw [HL.out]; omega) (by have := hB2.size; simp; omega) ?_; intro v' w' hown' hgr hat))
      go_roundw
      case rel => exact ⟨m + 1, by omega, by go_num, by rw [HS.out]; exact hown', (hB2.alloc hB2.size _).grown hgr (by have := hB2.size; simp; omega) (fun g e => Own1.base_le hO.out g e)⟩
      case measure => simp [intOf]; omega
    · obtain rfl : m = N := by omega
      go_wp2
      go_ret
      exact ⟨⟨_, rfl, by rw [HNN.out]; exact Own1.less hO.out (by have := hb1.size; omega)⟩, hb1.trans (hB.mono hb1.size)⟩
end Go.Proofs.Ytcmhceilbampiaa
