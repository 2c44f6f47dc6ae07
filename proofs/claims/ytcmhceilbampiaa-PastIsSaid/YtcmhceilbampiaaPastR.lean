/-
  THE PAST's WALKS: counted and Runs.
-/
import Derived.Test.YtcmhceilbampiaaPastW
import Derived.Laws.StructEq
import Derived.ChangeKeysEq
namespace Go.Proofs.Ytcmhceilbampiaa
open Go.RowKit
open PastP
set_option linter.unusedVariables false
theorem eq_pair (a b c d : Int) (w : World) : (Op.equalIn 10000 44 (.agg #[.int .i64 a, .int .i64 b]) (.agg #[.int .i64 c, .int .i64 d])).run Try.prog w = .ok (a == c && b == d) w := by
  rw [run_equalIn_array (P := Try.prog) w 9999 (e := 3) (n := 2) (i := (Try.prog.info? 3).getD default) _ _ Try.underlying44 (by kernel_rfl)]
  have hc : Try.prog.cellsOf 3 = 1 := by kernel_rfl
  rw [hc]
  simp only [Op.eqItems, List.range, List.range.loop]
  have hu := Try.underlying3
  go_simp
  cases h1 : a == c <;> cases h2 : b == d <;> simp_all
theorem cntN_le (n : Nat) (T : Nat → Int) : cntN n T ≤ n := by unfold cntN; split <;> omega
theorem cntN_of {n : Nat} {T : Nat → Int} (h : SaneP n T) : cntN n T = n := if_pos (saneB_iff.2 h)
theorem cntN_no {n : Nat} {T : Nat → Int} (h : saneB n T = false) : cntN n T = 0 := if_neg (by simp [h])
theorem sane_cntN (n : Nat) (T : Nat → Int) : SaneP (cntN n T) T := by
  unfold cntN; split
  · rename_i h; exact saneB_iff.1 h
  · exact ⟨by omega, fun i hi => absurd hi (by omega)⟩
set_option maxRecDepth 100000 in
set_option maxHeartbeats 800000 in
theorem pcnt_any (A : Option Addr) (n cap : Nat) (T : Nat → Int) (C : Nat → Bool) (w : World) (hn : n ≤ 9223372036854775807) (hc : n ≤ cap) (hcap : cap ≤ 9223372036854775807) (B : Nat) (hBw : B ≤ w.heap.size) (hb : Ps w B A n T C) :
    Calls Try.prog 42 #[.slice A n cap] w fun e w' => (∃ A' cap', e = .returned (.slice A' (cntN n T) cap') ∧ Ps w' B A' (cntN n T) T C ∧ cntN n T ≤ cap' ∧ cap' ≤ 9223372036854775807) ∧ Below w.heap.size w w' := by
  have hHb := Lib.hid hb; clear hb
  go_enter Try.func42, Try.ntmps42
  go_wp2_with fail
  refine (psane_any A n cap T C _ hn (hHb.out.more hBw)).mono ?_
  rintro e w1 ⟨rfl, hb1⟩
  cases hs : saneB n T
  · have HS := Lib.hid (cntN_no hs)
    clear hs
    go_wp2
    go_ret
    exact ⟨⟨none, 0, by rw [HS.out]; rfl, by rw [HS.out]; exact Q2.zero _ _ _ _ _, by rw [HS.out]; omega, by omega⟩, hb1⟩
  · have HS := Lib.hid (cntN_of (saneB_iff.1 hs))
    clear hs
    go_wp2
    go_ret
    exact ⟨⟨A, cap, by rw [HS.out]; rfl, by rw [HS.out]; exact hHb.out.below (hb1.mono hBw), by rw [HS.out]; exact hc, hcap⟩, hb1⟩
/-- What stands in 'run'. -/
def oc (o : Option Nat) (k : Nat) : Array Value := match o with
  | none => #[.int .i64 (-1), .int .i64 (-1)]
  | some s => #[.int .i64 (s : Int), .int .i64 ((k : Int) - 1)]
def pr (p : Nat × Nat) : Value × Value := (.int .i64 (p.1 : Int), .int .i64 (p.2 : Int))
theorem infoP2 : (Try.prog.info? 44).map (fun i => (i.zero, i.size, i.bytes)) = some (some (.agg #[.int .i64 0, .int .i64 0]), 2, 16) := by kernel_rfl
set_option maxRecDepth 100000 in
set_option maxHeartbeats 800000 in
theorem pruns_any (A : Option Addr) (n cap : Nat) (T : Nat → Int) (C : Nat → Bool) (w : World) (hn : n ≤ 9223372036854775807) (hc : n ≤ cap) (hcap : cap ≤ 9223372036854775807) (hb : Ps w w.heap.size A n T C) :
    Calls Try.prog 29 #[.slice A n cap] w fun e w' => (∃ v, e = .returned v ∧ Own2 w' w.heap.size 44 pr v (runs C (cntN n T))) ∧ Below w.heap.size w w' := by
  have hHb := Lib.hid hb; clear hb
  go_enter Try.func29, Try.ntmps29
  go_wp2_with fail
  refine (pcnt_any A n cap T C _ hn hc hcap w.heap.size (by simp; omega) ((hHb.out.alloc (Nat.le_refl _) _).alloc (by simp) _)).mono ?_
  rintro e w1 ⟨⟨A', cap', rfl, hps, hc', hcap''⟩, hb1⟩
  have h200 : cntN n T ≤ 200 := (sane_cntN n T).1
  generalize hNN : cntN n T = N at hps hc' h200 ⊢
  have HNN := Lib.hid hNN; clear hNN
  have hPs := Lib.hid hps
  have hB1 : Below w.heap.size w w1 := (((Below.refl _ _).alloc (Nat.le_refl _) _).alloc (by simp) _).trans (hb1.mono (by simp; omega))
  have G3 : Blk w1 w.heap.size 44 (oc none 0) := ((Blk.new w _ _).alloc _).below hb1 (by simp; omega)
  have G4 : Blk w1 (w.heap.size + 1) 44 (oc none 0) := by
    have := (Blk.new (w.alloc (.cells #[.int .i64 (-1), .int .i64 (-1)] 44)) 44 #[.int .i64 (-1), .int .i64 (-1)]).below hb1 (by simp)
    rwa [World.size_alloc] at this
  have hz1 : w.heap.size + 1 < w1.heap.size := by have := hb1.size; simp at this; omega
  clear hps hb1 hHb
  go_wp2
  go_loopw [5, 13] (fun vo i wr => ∃ k : Nat, k ≤ N ∧ i = .int .i64 k ∧ Own2 wr w1.heap.size 44 pr vo (rs C k).1 ∧ Blk wr w.heap.size 44 (oc none 0) ∧ Blk wr (w.heap.size + 1) 44 (oc (rs C k).2 k) ∧ Below w.heap.size w wr ∧ w1.heap.size ≤ wr.heap.size ∧ Ps wr w.heap.size A' N T C) (fun _ i _ => N - (intOf i).toNat)
  case atStart => exact ⟨0, by omega, rfl, Own2.nil_ _ _ _ _, G3, G4, hB1, Nat.le_refl _, hPs.out⟩
  case round =>
    obtain ⟨k, hk, rfl, hown, hG3, hG4, hB, hz, hP⟩ := hrel
    by_cases hlt : k < N
    · obtain ⟨b, off, rfl, hbB, hc⟩ := hP (by omega)
      have hx0 : wr.cell? ⟨b, off + k * 2, none⟩ = some (.int .i64 (T k)) := (hc k hlt).1
      have hx1 : wr.cell? ⟨b, off + k * 2 + 1, none⟩ = some (.bool (C k)) := (hc k hlt).2
      have hIn := Lib.hid (rInv C k)
      have hP' := Lib.hid hP; clear hP hPs hc
      have hE : rs C (k + 1) = (match C k, (rs C k).2 with
        | true, none => ((rs C k).1, some k)
        | true, some s => ((rs C k).1, some s)
        | false, none => ((rs C k).1, none)
        | false, some s => ((rs C k).1 ++ [(s, k - 1)], none)) := rfl
      have hE' := Lib.hid hE; clear hE
      have hlen := Lib.hid (runs_len_le C k).1
      generalize (rs C k).1 = l at hown hIn hE' hlen
      generalize (rs C k).2 = o at hG4 hIn hE'
      have hO := Lib.hid hown; clear hown
      have hBB := hB.alloc hB.size (.cells #[.int .i64 (T k), .bool (C k)] 46)
      have hPP := Lib.hid (hP'.out.alloc hB.size (.cells #[.int .i64 (T k), .bool (C k)] 46))
      have g30 : (wr.alloc (.cells #[.int .i64 (T k), .bool (C k)] 46)).cell? ⟨w.heap.size, 0, none⟩ = some (.int .i64 (-1)) := (hG3.alloc _).cell 0
      have g31 : (wr.alloc (.cells #[.int .i64 (T k), .bool (C k)] 46)).cell? ⟨w.heap.size, 1, none⟩ = some (.int .i64 (-1)) := (hG3.alloc _).cell 1
      have hG3' := hG3.alloc (.cells #[.int .i64 (T k), .bool (C k)] 46)
      have hG4' := hG4.alloc (.cells #[.int .i64 (T k), .bool (C k)] 46)
      have f40 := hG4'.frozen 0
      have f41 := hG4'.frozen 1
      have hzz : wr.heap.size < (wr.alloc (.cells #[.int .i64 (T k), .bool (C k)] 46)).heap.size := by simp
      have e1 : (wr.alloc (.cells #[.int .i64 (T k), .bool (C k)] 46)).cell? ⟨wr.heap.size, 1, none⟩ = some (.bool (C k)) := (Blk.new wr 46 #[.int .i64 (T k), .bool (C k)]).cell 1
      have hO1 := Lib.hid (hO.out.alloc (.cells #[.int .i64 (T k), .bool (C k)] 46))
      clear hG3 hG4
      generalize hCk : C k = ck at *
      cases o with
      | none =>
        have g40 : (wr.alloc (.cells #[.int .i64 (T k), .bool ck] 46)).cell? ⟨w.heap.size + 1, 0, none⟩ = some (.int .i64 (-1)) := hG4'.cell 0
        have g41 : (wr.alloc (.cells #[.int .i64 (T k), .bool ck] 46)).cell? ⟨w.heap.size + 1, 1, none⟩ = some (.int .i64 (-1)) := hG4'.cell 1
        have heq : ∀ w, (Op.equalIn 10000 44 (.agg #[.int .i64 (-1), .int .i64 (-1)]) (.agg #[.int .i64 (-1), .int .i64 (-1)])).run Try.prog w = .ok true w := fun w => by rw [eq_pair]; rfl
        have HG3 := Lib.hid hG3'
        have HG4 := Lib.hid hG4'
        clear hG3' hG4'
        cases ck
        · clear hCk
          go_wp2
          go_roundw
          case rel => exact ⟨k + 1, by omega, by go_num, by rw [hE'.out]; exact hO1.out, HG3.out, by rw [hE'.out]; exact HG4.out, hBB, by simp; omega, hPP.out⟩
          case measure => simp [intOf]; omega
        · clear hCk
          go_wp2
          go_roundw
          case rel =>
            refine ⟨k + 1, by omega, by go_num, ?_, (HG3.out.away (by simp) _).away (by simp) _, ?_, (hBB.setCell (by simp) _).setCell (by simp) _, by simp; omega, (hPP.out.setCell (by simp) _).setCell (by simp) _⟩
            · rw [hE'.out]
              exact (hO1.out.setCell (fun e => by have := hO1.out.base_le _ e; simp at this; omega) _).setCell (fun e => by have := hO1.out.base_le _ e; simp at this; omega) _
            · rw [hE'.out]
              have := (HG4.out.put 0 (.int .i64 (k : Int))).put 1 (.int .i64 (k : Int))
              have e : oc (some k) (k + 1) = #[.int .i64 (k : Int), .int .i64 (k : Int)] := by unfold oc; simp
              rw [e]; exact this
          case measure => simp [intOf]; omega
      | some s =>
        have hs := hIn.out.op s rfl
        have hsk : s < k := hs.1
        clear hs
        have g40 : (wr.alloc (.cells #[.int .i64 (T k), .bool ck] 46)).cell? ⟨w.heap.size + 1, 0, none⟩ = some (.int .i64 (s : Int)) := hG4'.cell 0
        have g41 : (wr.alloc (.cells #[.int .i64 (T k), .bool ck] 46)).cell? ⟨w.heap.size + 1, 1, none⟩ = some (.int .i64 ((k : Int) - 1)) := hG4'.cell 1
        have heq : ∀ w, (Op.equalIn 10000 44 (.agg #[.int .i64 (s : Int), .int .i64 ((k : Int) - 1)]) (.agg #[.int .i64 (-1), .int .i64 (-1)])).run Try.prog w = .ok false w := fun w => by
          rw [eq_pair]
          have : ((s : Int) == -1) = false := beq_false_of_ne (by omega)
          rw [this]; rfl
        have HG3 := Lib.hid hG3'
        have HG4 := Lib.hid hG4'
        clear hG3' hG4'
        cases ck
        · clear hCk
          have hLit : Blk ((wr.alloc (.cells #[.int .i64 (T k), .bool false] 46)).alloc (.cells #[.int .i64 (s : Int), .int .i64 ((k : Int) - 1)] 44)) (wr.heap.size + 1) 44 #[.int .i64 (s : Int), .int .i64 ((k : Int) - 1)] := by
            have := Blk.new (wr.alloc (.cells #[.int .i64 (T k), .bool false] 46)) 44 #[.int .i64 (s : Int), .int .i64 ((k : Int) - 1)]
            rwa [World.size_alloc] at this
          have HLit := Lib.hid hLit; clear hLit
          have HG3a := Lib.hid (HG3.out.alloc (.cells #[.int .i64 (s : Int), .int .i64 ((k : Int) - 1)] 44))
          have HG4a := Lib.hid (HG4.out.alloc (.cells #[.int .i64 (s : Int), .int .i64 ((k : Int) - 1)] 44))
          have hO2 := Lib.hid (hO1.out.alloc (.cells #[.int .i64 (s : Int), .int .i64 ((k : Int) - 1)] 44))
          have hob := Lib.hid (hO1.out.base_le)
          have hly : pr (s, k - 1) = (.int .i64 (s : Int), .int .i64 ((k : Int) - 1)) := by unfold pr; rw [show ((k - 1 : Nat) : Int) = (k : Int) - 1 by omega]
          have HLy := Lib.hid hly; clear hly
          have hnl := hlen.out
          go_wp2_with ((refine wpList_append_2 (by rfl) (.tmp 38) (.tmp 40) 37 (by rfl) w1.heap.size 44 (.agg #[.int .i64 0, .int .i64 0]) 16 Try.underlying37 infoP2 rfl pr _ l (by rfl) hO2.out (s, k - 1) ⟨rfl, rfl⟩ (wr.heap.size + 1) 1 44 (by rfl) (by rw [HLy.out]; exact HLit.out) (by omega) (by omega) (by simp; omega) ?_; intro v' w' hown' hgr hat; have HG3w := Lib.hid (HG3a.out.grown hgr (fun e => by have := hob.out _ e.symm; omega)); have HG4w := Lib.hid (HG4a.out.grown hgr (fun e => by have := hob.out _ e.symm; omega)); have g30w : w'.cell? ⟨w.heap.size, 0, none⟩ = some (.int .i64 (-1)) := HG3w.out.cell 0; have g31w : w'.cell? ⟨w.heap.size, 1, none⟩ = some (.int .i64 (-1)) := HG3w.out.cell 1; have f40w := HG4w.out.frozen 0; have f41w := HG4w.out.frozen 1; have g40w : w'.cell? ⟨w.heap.size + 1, 0, none⟩ = some (.int .i64 (s : Int)) := HG4w.out.cell 0; have g41w : w'.cell? ⟨w.heap.size + 1, 1, none⟩ = some (.int .i64 ((k : Int) - 1)) := HG4w.out.cell 1))
          go_roundw
          case rel =>
            have hwz := hgr.size
            refine ⟨k + 1, by omega, by go_num, ?_, (HG3w.out.away (by simp) _).away (by simp) _, ?_, (((hBB.alloc (by simp; omega) _).grown hgr (by simp; omega) (fun g e => by have := hob.out g e; omega)).setCell (by simp) _).setCell (by simp) _, by simp at hwz ⊢; omega, (((hPP.out.alloc (by simp; omega) _).grown hgr (by simp; omega) (fun g e => by have := hob.out g e; omega)).setCell (by simp) _).setCell (by simp) _⟩
            · rw [hE'.out]
              exact (hown'.setCell (fun e => by have := hown'.base_le _ e; simp at this; omega) _).setCell (fun e => by have := hown'.base_le _ e; simp at this; omega) _
            · rw [hE'.out]
              exact (HG4w.out.put 0 (.int .i64 (-1))).put 1 (.int .i64 (-1))
          case measure => simp [intOf]; omega
        · clear hCk
          go_wp2
          go_roundw
          case rel =>
            refine ⟨k + 1, by omega, by go_num, ?_, HG3.out.away (by simp) _, ?_, hBB.setCell (by simp) _, by simp; omega, hPP.out.setCell (by simp) _⟩
            · rw [hE'.out]
              exact hO1.out.setCell (fun e => by have := hO1.out.base_le _ e; simp at this; omega) _
            · rw [hE'.out]
              have := HG4.out.put 1 (.int .i64 (k : Int))
              have e : oc (some s) (k + 1) = #[.int .i64 (s : Int), .int .i64 (k : Int)] := by unfold oc; simp
              rw [e]; exact this
          case measure => simp [intOf]; omega
    · obtain rfl : k = N := by omega
      have hIn := Lib.hid (rInv C k)
      have hR := Lib.hid (show runs C k = (match (rs C k).2 with | none => (rs C k).1 | some s => (rs C k).1 ++ [(s, k - 1)]) from rfl)
      have hlen := Lib.hid (runs_len_le C k).1
      generalize (rs C k).1 = l at hown hIn hlen hR
      generalize (rs C k).2 = o at hG4 hIn hR
      have hO := Lib.hid hown; clear hown
      have g30 : wr.cell? ⟨w.heap.size, 0, none⟩ = some (.int .i64 (-1)) := hG3.cell 0
      have g31 : wr.cell? ⟨w.heap.size, 1, none⟩ = some (.int .i64 (-1)) := hG3.cell 1
      clear hP hPs
      cases o with
      | none =>
        have g40 : wr.cell? ⟨w.heap.size + 1, 0, none⟩ = some (.int .i64 (-1)) := hG4.cell 0
        have g41 : wr.cell? ⟨w.heap.size + 1, 1, none⟩ = some (.int .i64 (-1)) := hG4.cell 1
        have heq : ∀ w, (Op.equalIn 10000 44 (.agg #[.int .i64 (-1), .int .i64 (-1)]) (.agg #[.int .i64 (-1), .int .i64 (-1)])).run Try.prog w = .ok true w := fun w => by rw [eq_pair]; rfl
        clear hG3 hG4
        go_wp2
        go_ret
        exact ⟨⟨_, rfl, by rw [HNN.out, hR.out]; exact hO.out.less (by omega)⟩, hB⟩
      | some s =>
        have hs := hIn.out.op s rfl
        have hsk : s < k := hs.1
        clear hs
        have g40 : wr.cell? ⟨w.heap.size + 1, 0, none⟩ = some (.int .i64 (s : Int)) := hG4.cell 0
        have g41 : wr.cell? ⟨w.heap.size + 1, 1, none⟩ = some (.int .i64 ((k : Int) - 1)) := hG4.cell 1
        have heq : ∀ w, (Op.equalIn 10000 44 (.agg #[.int .i64 (s : Int), .int .i64 ((k : Int) - 1)]) (.agg #[.int .i64 (-1), .int .i64 (-1)])).run Try.prog w = .ok false w := fun w => by
          rw [eq_pair]
          have : ((s : Int) == -1) = false := beq_false_of_ne (by omega)
          rw [this]; rfl
        clear hG3 hG4
        have HLit := Lib.hid (Blk.new wr 44 #[.int .i64 (s : Int), .int .i64 ((k : Int) - 1)])
        have hO2 := Lib.hid (hO.out.alloc (.cells #[.int .i64 (s : Int), .int .i64 ((k : Int) - 1)] 44))
        have hly : pr (s, k - 1) = (.int .i64 (s : Int), .int .i64 ((k : Int) - 1)) := by unfold pr; rw [show ((k - 1 : Nat) : Int) = (k : Int) - 1 by omega]
        have HLy := Lib.hid hly; clear hly
        have hob := Lib.hid (hO.out.base_le)
        have hnl := hlen.out
        go_wp2_with ((refine wpList_append_2 (by rfl) (.tmp 47) (.tmp 49) 37 (by rfl) w1.heap.size 44 (.agg #[.int .i64 0, .int .i64 0]) 16 Try.underlying37 infoP2 rfl pr _ l (by rfl) hO2.out (s, k - 1) ⟨rfl, rfl⟩ wr.heap.size 1 44 (by rfl) (by rw [HLy.out]; exact HLit.out) (by omega) (by omega) (by simp; omega) ?_; intro v' w' hown' hgr hat))
        go_ret
        exact ⟨⟨_, rfl, by rw [HNN.out, hR.out]; exact hown'.less (by omega)⟩, (hB.alloc hB.size _).grown hgr (by have := hB.size; simp; omega) (fun g e => by have := hob.out g e; omega)⟩
end Go.Proofs.Ytcmhceilbampiaa
