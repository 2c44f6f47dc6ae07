/-
  LISTS OF OCTETS IN MEMORY, and the walks of the laws' helpers over them: records, small, Same.
-/
import Derived.Test.YtkkbncgnobaliaaFrmAll
import Derived.Test.YtkkbncgnobaliaaFrmP
import Derived.Test.YtkkbncgnobaliaaFrmW
import Derived.Deep.Matrix
namespace Go.Proofs.Ytkkbncgnobaliaa
open Go.RowKit
open CodP
open CrcP
set_option linter.unusedVariables false
/-- A slice of slices of octets. -/
structure Rws (w : World) (A : Option Addr) (n : Nat) (ps : List (List UInt8)) : Prop where
  len : ps.length = n
  out : ∃ vs : Nat → Value, Sl w w.heap.size A n vs ∧ ∀ i, i < n → ∃ A' n' c', vs i = .slice A' n' c' ∧ Bs w w.heap.size A' n' (ps.getD i []) ∧ n' ≤ c' ∧ c' ≤ 9223372036854775807
theorem Rws.now {w w' : World} {A : Option Addr} {n : Nat} {ps : List (List UInt8)} (h : Rws w A n ps) (hb : Below w.heap.size w w') : Rws w' A n ps := by
  obtain ⟨vs, h1, h2⟩ := h.out
  refine ⟨h.len, vs, (h1.below hb).more hb.size, fun i hi => ?_⟩
  obtain ⟨A', n', c', e, b, r⟩ := h2 i hi
  exact ⟨A', n', c', e, b.now hb, r⟩
theorem Rws.at_ {w : World} {A : Option Addr} {n : Nat} {ps : List (List UInt8)} (h : Rws w A n ps) {k : Nat} (hk : k < n) :
    ∃ b off A' n' c', A = some ⟨b, off, none⟩ ∧ b < w.heap.size ∧ w.cell? ⟨b, off + k, none⟩ = some (.slice A' n' c') ∧ Bs w w.heap.size A' n' (ps.getD k []) ∧ n' ≤ c' ∧ c' ≤ 9223372036854775807 := by
  obtain ⟨vs, h1, h2⟩ := h.out
  obtain ⟨b, off, e, hb, hc⟩ := h1 (by omega)
  obtain ⟨A', n', c', ev, r⟩ := h2 k hk
  exact ⟨b, off, A', n', c', e, hb, by rw [hc k hk, ev], r⟩
theorem Rws.take {w : World} {A : Option Addr} {n : Nat} {ps : List (List UInt8)} (h : Rws w A n ps) {k : Nat} (hk : k ≤ n) : Rws w A k (ps.take k) := by
  obtain ⟨vs, h1, h2⟩ := h.out
  refine ⟨by rw [List.length_take, h.len]; omega, vs, h1.take hk, fun i hi => ?_⟩
  obtain ⟨A', n', c', e, b, r⟩ := h2 i (by omega)
  refine ⟨A', n', c', e, ?_, r⟩
  have : (ps.take k).getD i [] = ps.getD i [] := by simp [List.getD_eq_getElem?_getD, hi]
  rw [this]; exact b
theorem Rws.drop {w : World} {A : Option Addr} {n cap : Nat} {ps : List (List UInt8)} (h : Rws w A n ps) {k : Nat} (hk : k ≤ n) (hc : n ≤ cap) : Rws w (cutAt A cap k 1) (n - k) (ps.drop k) := by
  obtain ⟨vs, h1, h2⟩ := h.out
  refine ⟨by rw [List.length_drop, h.len], fun i => vs (k + i), ?_, fun i hi => ?_⟩
  · have := Sl.cut (cap := cap) (size := 1) (k := k) (n := n) (by rw [Nat.mul_one]; exact h1) hk hc
    simpa using this
  · obtain ⟨A', n', c', e, b, r⟩ := h2 (k + i) (by omega)
    refine ⟨A', n', c', e, ?_, r⟩
    have : (ps.drop k).getD i [] = ps.getD (k + i) [] := by simp [List.getD_eq_getElem?_getD, List.getElem?_drop]
    rw [this]; exact b
theorem take_snoc {ps : List (List UInt8)} {k : Nat} (hk : k < ps.length) : ps.take (k + 1) = ps.take k ++ [ps.getD k []] := by
  rw [List.take_add_one, List.getD_eq_getElem?_getD, List.getElem?_eq_getElem hk]; rfl
set_option maxRecDepth 100000 in
set_option maxHeartbeats 1600000 in
theorem recs_any (A : Option Addr) (n cap : Nat) (ps : List (List UInt8)) (w : World) (hn : n ≤ 1000000) (hb : Rws w A n ps) :
    Calls Try.prog 25 #[.slice A n cap] w fun e w' => (∃ v, e = .returned v ∧ OwnB w' w.heap.size 5 v (recs ps)) ∧ Below w.heap.size w w' := by
  have HB := Lib.hid hb; clear hb
  have HL := Lib.hid HB.out.len
  go_enter Try.func25, Try.ntmps25
  go_wp2
  go_loopw [3, 4] (fun v i wr => ∃ k : Nat, k ≤ n ∧ i = .int .i64 k ∧ OwnB wr w.heap.size 5 v (recs (ps.take k)) ∧ Below w.heap.size w wr) (fun _ i _ => n - (intOf i).toNat)
  case atStart => exact ⟨0, by omega, rfl, by rw [List.take_zero]; exact OwnB.nil_ _ _ _, Below.refl _ _⟩
  case round =>
    obtain ⟨k, hk, rfl, hown, hB⟩ := hrel
    by_cases hlt : k < n
    · obtain ⟨b, off, A', n', c', rfl, hb1, hc, hbs, h1, h2⟩ := (HB.out.now hB).at_ hlt
      obtain ⟨A2, m2, c2, rfl, hs2, -, -⟩ := hown.bs
      have hm2 := Lib.hid hs2.len
      have hrl := recs_len (ps.take k)
      have hrl2 : (ps.take k).length ≤ k := by rw [List.length_take]; omega
      have hm3 : m2 ≤ 1099511627776 := by rw [← hm2.out]; omega
      have HT := Lib.hid (take_snoc (ps := ps) (k := k) (by rw [HL.out]; exact hlt))
      have HS := Lib.hid hs2
      have HBS := Lib.hid hbs
      clear hown hs2 hbs hrl hrl2
      go_wp2_with fail
      refine (fput_any A2 m2 c2 (recs (ps.take k)) A' n' c' (ps.getD k []) wr hm3 (by omega) HS.out HBS.out).mono ?_
      rintro e w3 ⟨⟨v3, rfl, hown3⟩, hb3⟩
      go_wp2
      go_roundw
      case rel => exact ⟨k + 1, by omega, by go_num, by rw [HT.out, recs_snoc]; exact OwnB.less hown3 hB.size, hB.trans (hb3.mono hB.size)⟩
      case measure => simp [intOf]; omega
    · obtain rfl : k = n := by omega
      have HO := Lib.hid hown; clear hown
      go_wp2
      go_ret
      exact ⟨⟨_, rfl, by have := HO.out; rwa [List.take_of_length_le (by rw [HL.out]; omega)] at this⟩, hB⟩
set_option maxRecDepth 100000 in
set_option maxHeartbeats 1600000 in
theorem small_any (A : Option Addr) (n cap : Nat) (ps : List (List UInt8)) (w : World) (hcn : n ≤ cap) (hcap : cap ≤ 9223372036854775807) (hb : Rws w A n ps) :
    Calls Try.prog 24 #[.slice A n cap] w fun e w' => (∃ b, e = .returned (.bool b) ∧ (b = true → n ≤ 20 ∧ ∀ p ∈ ps, p.length ≤ 200)) ∧ Below w.heap.size w w' := by
  have HB := Lib.hid hb; clear hb
  have HL := Lib.hid HB.out.len
  go_enter Try.func24, Try.ntmps24
  go_wp2
  go_loopw [3] (fun i wr => ∃ k : Nat, k ≤ n ∧ i = .int .i64 k ∧ (∀ j, j < k → (ps.getD j []).length ≤ 200) ∧ Below w.heap.size w wr) (fun i _ => n - (intOf i).toNat)
  case atStart => exact ⟨0, by omega, rfl, fun j hj => absurd hj (Nat.not_lt_zero _), Below.refl _ _⟩
  case round =>
    obtain ⟨k, hk, rfl, hall, hB⟩ := hrel
    by_cases hlt : k < n
    · obtain ⟨b, off, A', n', c', rfl, hb1, hc, hbs, h1, h2⟩ := (HB.out.now hB).at_ hlt
      have HBL := Lib.hid hbs.len
      have HA := Lib.hid hall
      clear hbs hall
      by_cases hp : 200 < n'
      · go_wp2
        go_ret
        exact ⟨⟨false, rfl, fun h => by cases h⟩, hB⟩
      · have dp : decide (200 < n') = false := decide_eq_false hp
        go_wp2
        go_roundw
        case rel =>
          refine ⟨k + 1, by omega, by go_num, fun j hj => ?_, hB⟩
          by_cases hjk : j < k
          · exact HA.out j hjk
          · obtain rfl : j = k := by omega
            rw [HBL.out]; omega
        case measure => simp [intOf]; omega
    · obtain rfl : k = n := by omega
      have HA := Lib.hid hall
      clear hall
      go_wp2
      go_ret
      refine ⟨⟨_, rfl, fun h => ?_⟩, hB⟩
      have h20 : k ≤ 20 := by
        have := of_decide_eq_true h
        omega
      refine ⟨h20, fun p hp => ?_⟩
      obtain ⟨i, hi, rfl⟩ := List.getElem_of_mem hp
      have := HA.out i (by rw [← HL.out]; exact hi)
      rwa [List.getD_eq_getElem?_getD, List.getElem?_eq_getElem hi] at this
theorem Bel.rdr {w : World} {b o : Nat} {v : Value} (h : w.cell? ⟨b, o, none⟩ = some v) (hb : b < w.heap.size) : ∀ p : Bel w, p.now.cell? ⟨b, o, none⟩ = some v := fun p => p.cell hb h
set_option maxRecDepth 100000 in
set_option maxHeartbeats 1600000 in
theorem same_any (A : Option Addr) (n cap : Nat) (A2 : Option Addr) (cap2 : Nat) (ps : List (List UInt8)) (w : World) (hcn : n ≤ cap) (hcap : cap ≤ 9223372036854775807) (hb : Rws w A n ps) (hb2 : Rws w A2 n ps) :
    Calls Try.prog 27 #[.slice A n cap, .slice A2 n cap2] w fun e w' => e = .returned (.bool true) ∧ Below w.heap.size w w' := by
  have HB := Lib.hid hb; clear hb
  have HB2 := Lib.hid hb2; clear hb2
  go_enter Try.func27, Try.ntmps27
  go_wp2
  go_loopw [5] (fun i wr => ∃ k : Nat, k ≤ n ∧ i = .int .i64 k ∧ Below w.heap.size w wr) (fun i _ => n - (intOf i).toNat)
  case atStart => exact ⟨0, by omega, rfl, Below.refl _ _⟩
  case round =>
    obtain ⟨k, hk, rfl, hB⟩ := hrel
    by_cases hlt : k < n
    · obtain ⟨b, off, A', n', c', rfl, hb1, hc, hbs, h1, h2⟩ := (HB.out.now hB).at_ hlt
      obtain ⟨b2, off2, A2', n2', c2', rfl, hb12, hc2, hbs2, h12, h22⟩ := (HB2.out.now hB).at_ hlt
      have q1 := Bel.rdr hc hb1
      have q2 := Bel.rdr hc2 hb12
      have st1 : ∀ p : Bel wr, (convert 22 9 (.slice A' n' c')).run Try.prog p.now = .ok (.string ⟨(ps.getD k []).toArray⟩) p.now := fun p => run_str p.now c' (hbs.now p.bel)
      have st2 : ∀ p : Bel wr, (convert 22 9 (.slice A2' n2' c2')).run Try.prog p.now = .ok (.string ⟨(ps.getD k []).toArray⟩) p.now := fun p => run_str p.now c2' (hbs2.now p.bel)
      generalize (⟨(ps.getD k []).toArray⟩ : ByteArray) = s at st1 st2
      clear hc hc2 hbs hbs2
      have im0 : (0 : Int) ≤ (k : Int) := by omega
      have im1 : (k : Int) < (n : Int) := by omega
      go_wp2_with fail
      refine wp_region_bel (by kernel_rfl) (by kernel_rfl) ?_
      repeat (
        refine WQ.step (fun KK hKK => ?_)
        go_simp
        refine hKK _ ?_; clear hKK KK)
      refine WQ.nil_ ?_
      rintro wq1 ⟨⟨wq, hq⟩, hwq⟩
      obtain rfl : wq = wq1 := hwq.symm
      clear hwq
      have hB2 := hB.trans (hq.mono hB.size)
      clear q1 q2 st1 st2
      go_wp2
      go_roundw
      case rel => exact ⟨k + 1, by omega, by go_num, hB2⟩
      case measure => simp [intOf]; omega
    · obtain rfl : k = n := by omega
      go_wp2
      go_ret
      exact ⟨rfl, hB⟩
end Go.Proofs.Ytkkbncgnobaliaa
