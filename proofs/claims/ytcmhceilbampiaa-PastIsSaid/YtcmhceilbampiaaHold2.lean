/-
  THE WALKS OF PACKAGE hold: 'counted', 'bounded'.
-/
import Derived.Test.YtcmhceilbampiaaHold1
import Derived.Deep.OwnRows
namespace Go.Proofs.Ytcmhceilbampiaa
open Go.RowKit
open HoldP
theorem sizeHold : (Try.prog.info? 23).map (·.size) = some 4 := by kernel_rfl
/-- What a function of the call's own has kept: cells that were there before it. -/
theorem bcell {W w1 : World} (hb : Below W.heap.size W w1) : (∀ b o, b < W.heap.size → w1.cell? ⟨b, o, none⟩ = W.cell? ⟨b, o, none⟩) ∧ (∀ b o, b < W.heap.size → w1.frozen? ⟨b, o, none⟩ = W.frozen? ⟨b, o, none⟩) :=
  ⟨fun b o h => hb.cell (p := ⟨b, o, none⟩) h, fun b o h => hb.frozen (p := ⟨b, o, none⟩) h⟩
set_option maxRecDepth 100000 in
set_option maxHeartbeats 800000 in
theorem counted_any (o : Bool) (s : Int) (i : Bool) (f : Int) (w : World) : Calls Try.prog 36 #[.agg #[.bool o, .int .i64 s, .bool i, .int .i64 f]] w fun e w' => e = .returned (.agg (hv (cnt ⟨o, s, i, f⟩))) ∧ Below w.heap.size w w' := by
  have HC := Lib.hid (show cnt ⟨o, s, i, f⟩ = if saneH ⟨o, s, i, f⟩ = true then ⟨o, s, i, f⟩ else none_ from rfl)
  cases hsn : saneH ⟨o, s, i, f⟩
  · have HS := Lib.hid hsn
    go_enter Try.func36, Try.ntmps36
    go_wp2_with fail
    refine (sane_any o s i f _).mono ?_
    rintro e w1 ⟨rfl, hb⟩
    obtain ⟨hc, hf⟩ := bcell hb
    have hz : w.heap.size + 1 < w1.heap.size := by have := hb.size; simp at this; omega
    go_wp2
    refine bodyPost_ret (v := .agg #[.bool false, .int .i64 0, .bool false, .int .i64 0]) (by simp [results, Try.results36, go_sem, hc]) rfl ⟨by rw [HC.out, HS.out]; rfl, ?_⟩
    exact ((((((Below.refl _ _).alloc (Nat.le_refl _) _).alloc (by simp) _).trans (hb.mono (by simp; omega))).setCell (by simp) _).setCell (by simp) _ |>.setCell (by simp) _).setCell (by simp) _
  · have HS := Lib.hid hsn
    go_enter Try.func36, Try.ntmps36
    go_wp2_with fail
    refine (sane_any o s i f _).mono ?_
    rintro e w1 ⟨rfl, hb⟩
    obtain ⟨hc, hf⟩ := bcell hb
    have hz : w.heap.size + 1 < w1.heap.size := by have := hb.size; simp at this; omega
    go_wp2
    refine bodyPost_ret (v := .agg #[.bool o, .int .i64 s, .bool i, .int .i64 f]) (by simp [results, Try.results36, go_sem, hc]) rfl ⟨by rw [HC.out, HS.out]; rfl, ?_⟩
    exact ((((((Below.refl _ _).alloc (Nat.le_refl _) _).alloc (by simp) _).trans (hb.mono (by simp; omega))).setCell (by simp) _).setCell (by simp) _ |>.setCell (by simp) _).setCell (by simp) _

/-- What 'bounded' lays: n numbers, the first k of them brought to the nearest time. -/
def bdCells (zs : List Int) (k : Nat) : Array Value := ((List.range zs.length).map fun j => Value.int .i64 (if j < k then clT (zs.getD j 0) else 0)).toArray
theorem bdCells_size (zs : List Int) (k : Nat) : (bdCells zs k).size = zs.length := by simp [bdCells]
theorem bdCells_get (zs : List Int) (k j : Nat) (hj : j < zs.length) : (bdCells zs k)[j]? = some (.int .i64 (if j < k then clT (zs.getD j 0) else 0)) := by
  simp [bdCells, hj]
theorem bdCells_set (zs : List Int) (k : Nat) (hk : k < zs.length) (v : Int) (hv : v = clT (zs.getD k 0)) : (bdCells zs k).setIfInBounds k (.int .i64 v) = bdCells zs (k + 1) := by
  subst hv
  apply Array.ext_getElem?
  intro j
  rw [Array.getElem?_setIfInBounds, bdCells_size]
  by_cases hj : j < zs.length
  · rw [bdCells_get zs k j hj, bdCells_get zs (k + 1) j hj]
    by_cases e : k = j
    · subst e; simp [hk]
    · rw [if_neg e]; congr 3; simp; omega
  · rw [Array.getElem?_eq_none (by rw [bdCells_size]; omega), Array.getElem?_eq_none (by rw [bdCells_size]; omega), if_neg (by omega)]
theorem made_bd (zs : List Int) : madeCells #[.int .i64 0] zs.length = bdCells zs 0 := by
  apply Array.ext_getElem?
  intro j
  by_cases hj : j < zs.length
  · rw [bdCells_get zs 0 j hj]; simp [madeCells, hj, Nat.mod_one]
  · rw [Array.getElem?_eq_none (by simp [madeCells]; omega), Array.getElem?_eq_none (by rw [bdCells_size]; omega)]
theorem infoI : (Try.prog.info? 3).map (fun i => (i.zero, i.size, i.bytes)) = some (some (.int .i64 0), 1, 8) := by kernel_rfl
theorem clamp_runs (z : Int) : ∃ m1 m2 : Int, (∀ (ts : Array TypeId) (t : TypeId) (W : World), (Builtin.max_ ts t #[.int .i64 z, .int .i64 0]).run Try.prog W = .ok (.int .i64 m1) W) ∧
    (∀ (ts : Array TypeId) (t : TypeId) (W : World), (Builtin.min_ ts t #[.int .i64 m1, .int .i64 9007199254740992]).run Try.prog W = .ok (.int .i64 m2) W) ∧ m2 = clT z := by
  refine ⟨max z 0, clT z, fun ts t W => ?_, fun ts t W => ?_, rfl⟩
  · simp [Builtin.max_, Builtin.max2]; split <;> omega
  · simp [Builtin.min_, Builtin.min2, clT]; split <;> omega
set_option maxRecDepth 100000 in
set_option maxHeartbeats 800000 in
theorem bounded_any (b : Nat) (zs : List Int) (n : Nat) (hn : zs.length = n) (hsm : n ≤ 3) (w : World) (hbl : Blk w b 3 (zs.map (Value.int .i64)).toArray) :
    Calls Try.prog 37 #[.slice (some ⟨b, 0, none⟩) n n] w fun e w' => ∃ g, e = .returned (.slice (some ⟨g, 0, none⟩) n n) ∧ Blk w' g 3 (bdCells zs n) ∧ w.heap.size ≤ g ∧ Below w.heap.size w w' := by
  have hmk := run_make_row' (P := Try.prog) 41 3 (.int .i64 0) 8 Try.underlying41 infoI rfl .i64 .i64 n (by omega) (by omega)
  go_enter Try.func37, Try.ntmps37
  go_wp2_with fail
  have hw0 : Blk (w.alloc (.cells (madeCells #[.int .i64 0] n) 3)) w.heap.size 3 (bdCells zs 0) := by
    rw [← made_bd, hn]; exact Blk.new _ _ _
  have hB0 : Below w.heap.size w (w.alloc (.cells (madeCells #[.int .i64 0] n) 3)) := (Below.refl _ _).alloc (Nat.le_refl _) _
  generalize w.alloc (.cells (madeCells #[.int .i64 0] n) 3) = w0 at hw0 hB0 ⊢
  clear hmk
  have hn' := Lib.hid hn
  have hlb := hbl.lt
  subst hn
  go_loopw [4, 5, 11] (fun _ _ i wr => ∃ k : Nat, k ≤ zs.length ∧ i = .int .i64 k ∧ Blk wr w.heap.size 3 (bdCells zs k) ∧ Below w.heap.size w wr) (fun _ _ i _ => zs.length - (intOf i).toNat)
  case atStart => exact ⟨0, by omega, rfl, hw0, hB0⟩
  case round =>
    obtain ⟨k, hk, rfl, hr, hB⟩ := hrel
    by_cases hlt : k < zs.length
    · have hcx : wr.cell? ⟨b, k, none⟩ = some (.int .i64 (zs.getD k 0)) := by
        rw [(hbl.below hB hlb).cell k]; simp [hlt]
      have hcy := (hr.cell k).trans (bdCells_get zs k k hlt)
      have hfy := hr.frozen k
      obtain ⟨m1, m2, hmax, hmin, hm⟩ := clamp_runs (zs.getD k 0)
      have HM := Lib.hid hm; clear hm
      generalize hz : zs.getD k 0 = z at hcx hmax HM
      have HZ := Lib.hid hz; clear hz
      go_wp2
      go_roundw
      case rel =>
        refine ⟨k + 1, by omega, by go_num, ?_, hB.setCell (Nat.le_refl _) _⟩
        have := hr.put k (.int .i64 m2)
        rwa [bdCells_set zs k hlt m2 (by rw [HZ.out, HM.out])] at this
      case measure => simp [intOf]; omega
    · obtain rfl : k = zs.length := by omega
      go_wp2
      go_ret
      exact ⟨_, rfl, hr, Nat.le_refl _, hB⟩
end Go.Proofs.Ytcmhceilbampiaa
