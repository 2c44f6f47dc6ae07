/-
  THE WALK OF hold.Gone.
-/
import Derived.Test.YtcmhceilbampiaaHoldNow
namespace Go.Proofs.Ytcmhceilbampiaa
open Go.RowKit
open HoldP
set_option maxRecDepth 100000 in
set_option maxHeartbeats 1600000 in
theorem gone_any (o : Bool) (s : Int) (i : Bool) (f : Int) (t k : Int) (w : World) : Calls Try.prog 23 #[.agg #[.bool o, .int .i64 s, .bool i, .int .i64 f], .int .i64 t, .int .i64 k] w fun e w' => e = .returned (.bool (gone ⟨o, s, i, f⟩ t k)) ∧ Below w.heap.size w w' := by
  have HN := Lib.hid (show gone ⟨o, s, i, f⟩ t k = gone0 (cnt ⟨o, s, i, f⟩) (clT t) (clT k) from rfl)
  have HM := Lib.hid (show now (cnt ⟨o, s, i, f⟩) (clT t) (clT k) = now0 (cnt ⟨o, s, i, f⟩) (clT t) (clT k) from by unfold now; rw [cnt_cnt, cl_cl, cl_cl])
  have hsn := sane_bd (sane_cnt ⟨o, s, i, f⟩)
  go_enter Try.func23, Try.ntmps23
  go_wp2_with fail
  refine (counted_any o s i f _).mono ?_
  rintro e w1 ⟨rfl, hb1⟩
  generalize cnt ⟨o, s, i, f⟩ = h at HN HM hsn ⊢
  obtain ⟨o', s', i', f'⟩ := h
  simp only at hsn
  simp only [hv]
  obtain ⟨hc, hf⟩ := bcell hb1
  have hz1 : w.heap.size < w1.heap.size := by have := hb1.size; simp at this; omega
  go_wp2_with fail
  refine (bounded_any w1.heap.size [t, k] 2 rfl (by omega) _ (blk_new_at (by simp) rfl)).mono ?_
  rintro e w2 ⟨g, rfl, hblk, hgle, hb2⟩
  obtain ⟨hg0, hg1⟩ := bd2 hblk
  have hT := cl_bd t
  have hK := cl_bd k
  generalize clT t = T at HN HM hg0 hT
  generalize clT k = K at HN HM hg1 hK
  obtain ⟨hc2, -⟩ := bcell hb2
  have q0 : w2.cell? ⟨w.heap.size, 0, none⟩ = some (.bool o') := by rw [hc2 _ _ (by simp; omega)]; go_simp
  have q1 : w2.cell? ⟨w.heap.size, 1, none⟩ = some (.int .i64 s') := by rw [hc2 _ _ (by simp; omega)]; go_simp
  have q2 : w2.cell? ⟨w.heap.size, 2, none⟩ = some (.bool i') := by rw [hc2 _ _ (by simp; omega)]; go_simp
  have q3 : w2.cell? ⟨w.heap.size, 3, none⟩ = some (.int .i64 f') := by rw [hc2 _ _ (by simp; omega)]; go_simp
  have hB : Below w.heap.size w w2 := by
    refine Below.trans ?_ (hb2.mono (by simp; omega))
    exact (((((((Below.refl _ _).alloc (Nat.le_refl _) _).trans (hb1.mono (by simp))).setCell (by simp) _).setCell (by simp) _).setCell (by simp) _).setCell (by simp) _).alloc (by simp; omega) _
  have hz2 : w.heap.size < w2.heap.size := by have := hb2.size; simp at this; omega
  clear hblk hc2 hb2 hc hf hb1 hgle hz1
  go_wp2_with fail
  go_quiet (fail)
  go_wp2_with fail
  refine (now_any o' s' i' f' T K _).mono ?_
  rintro e w3 ⟨rfl, hb3⟩
  obtain ⟨hc3, -⟩ := bcell hb3
  have u0 : w3.cell? ⟨w.heap.size, 0, none⟩ = some (.bool o') := (hc3 _ _ hz2).trans q0
  have u2 : w3.cell? ⟨w.heap.size, 2, none⟩ = some (.bool i') := (hc3 _ _ hz2).trans q2
  have u3 : w3.cell? ⟨w.heap.size, 3, none⟩ = some (.int .i64 f') := (hc3 _ _ hz2).trans q3
  have hB3 : Below w.heap.size w w3 := (below_drewN hB _).trans (hb3.mono hB.size)
  clear hc3 hb3 hB q0 q1 q2 q3 hg0 hg1 hz2
  generalize now ⟨o', s', i', f'⟩ T K = N at HM ⊢
  by_cases hN : N = 0
  · subst hN
    have HE := Lib.hid (show gone0 ⟨o', s', i', f'⟩ T K = ((0 == 0 : Bool) && !o' && (!i' || (decide (f' < T) && decide (K ≤ T - f')))) from by unfold gone0; rw [← HM.out]; rfl)
    cases o' <;> cases i'
    all_goals
      by_cases a1 : f' < T <;> by_cases a2 : K ≤ T - f'
    all_goals
      go_wp2
      go_ret
      refine ⟨ret_bool (by rw [HN.out, HE.out]; simp [a1, a2] <;> omega), hB3⟩
  · have d1 : (N != 0) = true := by simp [hN]
    have HE := Lib.hid (show gone0 ⟨o', s', i', f'⟩ T K = false from by unfold gone0; rw [← HM.out]; simp [hN])
    have HH := Lib.hid hN; clear hN
    go_wp2
    go_ret
    refine ⟨ret_bool (by rw [HN.out, HE.out]), hB3⟩
end Go.Proofs.Ytcmhceilbampiaa
