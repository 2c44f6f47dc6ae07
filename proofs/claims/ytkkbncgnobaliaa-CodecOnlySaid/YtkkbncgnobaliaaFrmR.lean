/-
  frame.records: what stands in all records that are whole (plain), and the walk of the iterator over whatever a loop's body keeps.
-/
import Derived.Test.YtkkbncgnobaliaaDsk
import Derived.Test.YtkkbncgnobaliaaOwn
import Derived.RangeFuncNested
import Derived.RangeFuncBound
import Derived.RangeFuncCalls
import Derived.RangeFuncLeaves
import Derived.Shelf.Abstract
import Derived.Shelf.RegionOpen
import Derived.WalkKit
import Derived.OwnWalkIn
import Derived.TacticsInMore
import Derived.LoopNIn
import Derived.LoopIn
namespace Go.Proofs.Ytkkbncgnobaliaa
open Go.RowKit Go.Shelf
open CodP
open CrcP
set_option linter.unusedVariables false
attribute [local go_sem] Oper.semAt_some
theorem getF_short {l p r : List UInt8} (h : getF l = .ok (p, r)) : r.length < l.length := by
  obtain ⟨e, -⟩ := getF_ok h
  rw [e]; unfold recd; have := encU_pos p.length; simp; omega
/-- All that is whole, what is left behind it, and the error's number (0: none). -/
def allF (l : List UInt8) : List (List UInt8) × List UInt8 × Nat :=
  if l = [] then ([], [], 0) else
  match h : getF l with
  | .error c => ([], l, c)
  | .ok (p, r) => (p :: (allF r).1, (allF r).2)
termination_by l.length
decreasing_by all_goals exact getF_short h
theorem allF_nil : allF [] = ([], [], 0) := by rw [allF, if_pos rfl]
theorem allF_err {l : List UInt8} {c : Nat} (h0 : l ≠ []) (h : getF l = .error c) : allF l = ([], l, c) := by
  rw [allF, if_neg h0]; split
  · rename_i h'; rw [h] at h'; cases h'; rfl
  · rename_i h'; rw [h] at h'; cases h'
theorem allF_ok {l p r : List UInt8} (h : getF l = .ok (p, r)) : allF l = (p :: (allF r).1, (allF r).2) := by
  have h0 : l ≠ [] := by rintro rfl; have := getF_short h; simp at this
  rw [allF, if_neg h0]; split
  · rename_i h'; rw [h] at h'; cases h'
  · rename_i h'; rw [h] at h'; cases h'; rfl
def lenOf : Value → Nat
  | .slice _ n _ => n
  | _ => 0
set_option maxRecDepth 100000 in
set_option maxHeartbeats 1000000 in
theorem frecords_any (A : Option Addr) (n cap B : Nat) (w : World) :
    Calls Try.prog 59 #[.slice A n cap, .pointer (some ⟨B, 0, none⟩)] w fun e w' => e = .returned (.func (.func 72) #[] #[.pointer (some ⟨w.heap.size, 0, none⟩), .pointer (some ⟨w.heap.size + 1, 0, none⟩)]) ∧
      w' = (w.alloc (.cells #[.slice A n cap] 22)).alloc (.cells #[.pointer (some ⟨B, 0, none⟩)] 98) := by
  go_enter Try.func59, Try.ntmps59
  go_wp2
  go_ret
  exact ⟨rfl, rfl⟩
/-- How the iterator leaves the world: what was wrong is laid into e. -/
def EndR (J : List (List UInt8) → Nat → World → Prop) (Be : Nat) (x : List (List UInt8) × List UInt8 × Nat) (W' : World) : Prop :=
  ∃ W'', J x.1 x.2.1.length W'' ∧ W' = if x.2.2 = 0 then W'' else W''.setCell ⟨Be, 0, none⟩ (.int .i64 (x.2.2 : Nat))
set_option maxRecDepth 100000 in
set_option maxHeartbeats 2000000 in
/-- THE ITERATOR: for whatever J the loop keeps. -/
theorem frec1 (n : Nat) (hn1 : 1 ≤ n) (lp Bc Bd Be : Nat) (A : Option Addr) (m cap : Nat) (l : List UInt8) (w0 : World) (hm : m ≤ 9223372036854775807) (hmc : m ≤ cap) (hcap : cap ≤ 9223372036854775807) (hb : Bs w0 w0.heap.size A m l)
    (J : List (List UInt8) → Nat → World → Prop)
    (hJw : ∀ pre k W, J pre k W → Below w0.heap.size w0 W)
    (hJb : ∀ pre k W W', J pre k W → Below W.heap.size W W' → J pre k W')
    (hJc : ∀ pre k W, J pre k W → W.cell? ⟨Bc, 0, none⟩ = some (.slice A m cap) ∧ W.cell? ⟨Bd, 0, none⟩ = some (.pointer (some ⟨Be, 0, none⟩)) ∧ W.cell? ⟨Be, 0, none⟩ = some (.int .i64 0) ∧ W.frozen? ⟨Be, 0, none⟩ = false)
    (hY : ∀ pre k W A1 n1 c1 A2 n2 c2 p r, J pre k W → n2 < k → Bs w0 w0.heap.size A1 n1 p → n1 ≤ c1 → c1 ≤ 9223372036854775807 → Bs w0 w0.heap.size A2 n2 r →
      YieldAt Fence.wide (n - 1) Try.prog lp #[.slice A1 n1 c1, .slice A2 n2 c2] W fun e W' => e = .returned (.bool true) ∧ J (pre ++ [p]) n2 W')
    (W : World) (h0 : J [] m W) :
    CallsIn Fence.wide n Try.prog 72 #[.func (.yield lp) #[] #[], .pointer (some ⟨Bc, 0, none⟩), .pointer (some ⟨Bd, 0, none⟩)] W fun e W' => (∃ v, e = .returned v) ∧ EndR J Be (allF l) W' := by
  have HB := Lib.hid hb
  obtain ⟨hc0, -, -, -⟩ := hJc _ _ _ h0
  refine callsIn_of_wp Try.func72 rfl trivial ?_ rfl
  simp only [Try.ntmps72, List.size_toArray, List.length_cons, List.length_nil, Nat.reduceAdd, Nat.reduceSub, Array.replicate_succ, Array.replicate_zero, List.push_toArray, List.append_toArray, List.nil_append, List.cons_append]
  gi_wp2
  gi_loopw [4] (fun x wr => ∃ (pre : List (List UInt8)) (A1 : Option Addr) (n1 c1 : Nat) (lf : List UInt8), x = .slice A1 n1 c1 ∧ Bs w0 w0.heap.size A1 n1 lf ∧ n1 ≤ c1 ∧ c1 ≤ 9223372036854775807 ∧ J pre n1 wr ∧ allF l = (pre ++ (allF lf).1, (allF lf).2))
    (fun x wr => lenOf x)
  case atStart => exact ⟨[], A, m, cap, l, rfl, HB.out, hmc, hcap, h0, rfl⟩
  case round =>
    obtain ⟨pre, A1, n1, c1, lf, rfl, hbl, hnc, hcm, hJ, hall⟩ := hrel
    have HL := Lib.hid hbl
    have HA := Lib.hid hall
    clear hbl hall
    by_cases hn0 : n1 = 0
    · subst hn0
      have hlf : lf = [] := List.eq_nil_of_length_eq_zero HL.out.len
      subst hlf
      gi_wp2
      go_end0
      refine ⟨⟨_, rfl⟩, ?_⟩
      rw [HA.out, allF_nil]
      exact ⟨wr, by simpa using hJ, rfl⟩
    · have hpos : 0 < n1 := by omega
      have hBw := hJw _ _ _ hJ
      have hne : lf ≠ [] := by rintro rfl; have := HL.out.len; simp at this; omega
      have HG := Lib.hid (fget_at w0.heap.size A1 n1 c1 lf wr hBw.size (by omega) hnc hcm (HL.out.below hBw))
      gi_wp2_with (refine ⟨trivial, ?_⟩; gi_at_call 23; refine (callsIn_wide.2 HG.out).mono ?_)
      rintro e w2 ⟨hG, hb2⟩
      have hJ2 := hJb _ _ _ _ hJ hb2
      cases hg : getF lf with
      | error c =>
        rw [hg] at hG
        obtain rfl := hG
        have hE := Lib.hid (allF_err hne hg)
        have hc : ((c : Int) != 0) = true := bne_iff_ne.2 (by have := getF_err hg; omega)
        have hc0 : c ≠ 0 := getF_err hg
        have HC0 := Lib.hid hc0
        obtain ⟨-, k1, k2, k3⟩ := hJc _ _ _ hJ2
        clear hg hne HG hc0
        gi_wp2
        refine bodyPost_ret (results_none rfl _ _ _) rfl ?_
        refine ⟨⟨_, rfl⟩, ?_⟩
        rw [HA.out, hE.out]
        refine ⟨w2, ?_, ?_⟩
        · simp only [List.append_nil]; rw [HL.out.len]; exact hJ2
        · rw [if_neg HC0.out]
      | ok pr =>
        obtain ⟨p, r⟩ := pr
        rw [hg] at hG
        have hE := Lib.hid (allF_ok hg)
        obtain ⟨A3, n3, c3, A4, n4, c4, rfl, hp, hr, x1, x2, x3, x4⟩ := hG
        have hsh := getF_short hg
        rw [HL.out.len, hr.len] at hsh
        have hback : Below w0.heap.size w0 w2 := hJw _ _ _ hJ2
        have hp0 : Bs w0 w0.heap.size A3 n3 p := hp.keep fun b o hb => (hback.cell (p := ⟨b, o, none⟩) hb).symm
        have hr0 : Bs w0 w0.heap.size A4 n4 r := hr.keep fun b o hb => (hback.cell (p := ⟨b, o, none⟩) hb).symm
        have HR0 := Lib.hid hr0
        obtain ⟨fn, tmps, assign, body, hy, hR⟩ := hY pre n1 w2 A3 n3 c3 A4 n4 c4 p r hJ2 hsh hp0 x1 x2 hr0
        clear hp hr hp0 hr0 hg hne HG
        gi_wp2
        refine hR.mono ?_
        rintro e W3 ⟨rfl, hJ3⟩
        gi_wp2
        go_roundw
        case rel => exact ⟨pre ++ [p], A4, n4, c4, r, rfl, HR0.out, x3, x4, hJ3, by rw [HA.out, hE.out]; simp⟩
        case measure => simp [lenOf]; omega
end Go.Proofs.Ytkkbncgnobaliaa
