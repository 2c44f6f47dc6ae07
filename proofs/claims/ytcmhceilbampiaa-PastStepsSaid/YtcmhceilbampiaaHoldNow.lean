/-
  THE WALKS OF PACKAGE hold: 'Now', 'Step', 'Gone'.
-/
import Derived.Test.YtcmhceilbampiaaHold2
namespace Go.Proofs.Ytcmhceilbampiaa
open Go.RowKit
open HoldP
theorem bd2 {w : World} {g : Nat} {t k : Int} (h : Blk w g 3 (bdCells [t, k] 2)) : w.cell? ⟨g, 0, none⟩ = some (.int .i64 (clT t)) ∧ w.cell? ⟨g, 1, none⟩ = some (.int .i64 (clT k)) :=
  ⟨(h.cell 0).trans (bdCells_get [t, k] 2 0 (by simp)), (h.cell 1).trans (bdCells_get [t, k] 2 1 (by simp))⟩
theorem bd3 {w : World} {g : Nat} {t k m : Int} (h : Blk w g 3 (bdCells [t, k, m] 3)) : w.cell? ⟨g, 0, none⟩ = some (.int .i64 (clT t)) ∧ w.cell? ⟨g, 1, none⟩ = some (.int .i64 (clT k)) ∧ w.cell? ⟨g, 2, none⟩ = some (.int .i64 (clT m)) :=
  ⟨(h.cell 0).trans (bdCells_get [t, k, m] 3 0 (by simp)), (h.cell 1).trans (bdCells_get [t, k, m] 3 1 (by simp)), (h.cell 2).trans (bdCells_get [t, k, m] 3 2 (by simp))⟩
theorem blk_new_at {W : World} {n : Nat} {t : TypeId} {cs cs' : Array Value} (hn : W.heap.size = n) (hcs : cs' = cs) : Blk (W.alloc (.cells cs t)) n t cs' := by
  subst hn hcs; exact Blk.new _ _ _
set_option maxRecDepth 100000 in
set_option maxHeartbeats 1600000 in
theorem now_any (o : Bool) (s : Int) (i : Bool) (f : Int) (t k : Int) (w : World) : Calls Try.prog 21 #[.agg #[.bool o, .int .i64 s, .bool i, .int .i64 f], .int .i64 t, .int .i64 k] w fun e w' => e = .returned (.int .i64 (now ⟨o, s, i, f⟩ t k)) ∧ Below w.heap.size w w' := by
  have HN := Lib.hid (show now ⟨o, s, i, f⟩ t k = now0 (cnt ⟨o, s, i, f⟩) (clT t) (clT k) from rfl)
  have hsn := sane_bd (sane_cnt ⟨o, s, i, f⟩)
  go_enter Try.func21, Try.ntmps21
  go_wp2_with fail
  refine (counted_any o s i f _).mono ?_
  rintro e w1 ⟨rfl, hb1⟩
  generalize cnt ⟨o, s, i, f⟩ = h at HN hsn ⊢
  obtain ⟨o', s', i', f'⟩ := h
  simp only at hsn
  simp only [hv]
  obtain ⟨hc, hf⟩ := bcell hb1
  have hz1 : w.heap.size < w1.heap.size := by have := hb1.size; simp at this; omega
  go_wp2_with fail
  refine (bounded_any w1.heap.size [t, k] 2 rfl (by omega) _ (blk_new_at (by simp) rfl)).mono ?_
  rintro e w2 ⟨g, rfl, hblk, hgle, hb2⟩
  obtain ⟨hg0, hg1⟩ := bd2 hblk
  have hT := cl_bd t
  have hK := cl_bd k
  generalize clT t = T at HN hg0 hT
  generalize clT k = K at HN hg1 hK
  obtain ⟨hc2, -⟩ := bcell hb2
  have q0 : w2.cell? ⟨w.heap.size, 0, none⟩ = some (.bool o') := by rw [hc2 _ _ (by simp; omega)]; go_simp
  have q2 : w2.cell? ⟨w.heap.size, 2, none⟩ = some (.bool i') := by rw [hc2 _ _ (by simp; omega)]; go_simp
  have q3 : w2.cell? ⟨w.heap.size, 3, none⟩ = some (.int .i64 f') := by rw [hc2 _ _ (by simp; omega)]; go_simp
  have hB : Below w.heap.size w w2 := by
    refine Below.trans ?_ (hb2.mono (by simp; omega))
    exact (((((((Below.refl _ _).alloc (Nat.le_refl _) _).trans (hb1.mono (by simp))).setCell (by simp) _).setCell (by simp) _).setCell (by simp) _).setCell (by simp) _).alloc (by simp; omega) _
  clear hblk hc2 hb2 hc hf hb1 hgle
  go_wp2_with fail
  go_quiet (fail)
  clear hz1
  cases i' <;> cases o'
  all_goals
    by_cases a1 : 0 < K <;> by_cases a2 : f' < T <;> by_cases a3 : T - f' < K <;> by_cases a4 : f' = T
  all_goals
    first
      | (exfalso; omega)
      | (go_wp2
         go_ret
         refine ⟨ret_int (by rw [HN.out]; simp [now0, keptB, a1, a2, a3, a4] <;> omega), below_drewN hB _⟩)
end Go.Proofs.Ytcmhceilbampiaa
