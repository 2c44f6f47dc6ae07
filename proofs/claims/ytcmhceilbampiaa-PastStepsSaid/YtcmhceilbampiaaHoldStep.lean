/-
  THE WALK OF hold.Step.
-/
import Derived.Test.YtcmhceilbampiaaHoldNow
import Derived.Deep.RegionHeld3
namespace Go.Proofs.Ytcmhceilbampiaa
open Go.RowKit
open HoldP
theorem now_cl (h : Hd) (t k : Int) : now h (clT t) (clT k) = now h t k := by unfold now; rw [cl_cl, cl_cl]
theorem step_ends {S h h' : Hd} {t k T K : Int} (hN : S = h) (hK : now S T K = now S t k) (he : h = h') :
    Ending.returned (.tuple #[.agg #[.bool h'.on, .int .i64 h'.since, .bool h'.hit, .int .i64 h'.fired], .int .i64 (now h' T K)]) = .returned (.tuple #[.agg (hv S), .int .i64 (now S t k)]) := by
  subst he hN
  rw [hK]; rfl
set_option maxRecDepth 100000 in
set_option maxHeartbeats 6400000 in
theorem step_any (o : Bool) (s : Int) (i : Bool) (f : Int) (c : Bool) (t wt k : Int) (w : World) : Calls Try.prog 17 #[.agg #[.bool o, .int .i64 s, .bool i, .int .i64 f], .bool c, .int .i64 t, .int .i64 wt, .int .i64 k] w fun e w' =>
    e = .returned (.tuple #[.agg (hv (stepH ⟨o, s, i, f⟩ c t wt)), .int .i64 (now (stepH ⟨o, s, i, f⟩ c t wt) t k)]) ∧ Below w.heap.size w w' := by
  have HN := Lib.hid (show stepH ⟨o, s, i, f⟩ c t wt = step0 (cnt ⟨o, s, i, f⟩) c (clT t) (clT wt) from rfl)
  have HK := Lib.hid (now_cl (stepH ⟨o, s, i, f⟩ c t wt) t k)
  have hsn := sane_bd (sane_cnt ⟨o, s, i, f⟩)
  go_enter Try.func17, Try.ntmps17
  go_wp2_with fail
  refine (counted_any o s i f _).mono ?_
  rintro e w1 ⟨rfl, hb1⟩
  generalize cnt ⟨o, s, i, f⟩ = h at HN hsn ⊢
  obtain ⟨o', s', i', f'⟩ := h
  simp only at hsn
  simp only [hv]
  have hz1 : w.heap.size + 1 < w1.heap.size := by have := hb1.size; simp at this; omega
  have K1 : Blk w1 w.heap.size 23 #[.bool o, .int .i64 s, .bool i, .int .i64 f] := ((Blk.new w _ _).alloc _).below hb1 (by simp; omega)
  have K2 : Blk w1 (w.heap.size + 1) 23 #[.bool false, .int .i64 0, .bool false, .int .i64 0] := (blk_new_at (by simp) rfl).below hb1 (by simp)
  obtain ⟨hc, hf⟩ := bcell hb1
  go_wp2_with fail
  refine (bounded_any w1.heap.size [t, wt, k] 3 rfl (by omega) _ (blk_new_at (by simp) rfl)).mono ?_
  rintro e w2 ⟨g, rfl, hblk, hgle, hb2⟩
  obtain ⟨hg0, hg1, hg2⟩ := bd3 hblk
  have hT := cl_bd t
  have hWt := cl_bd wt
  have hK := cl_bd k
  have L1 : Blk w2 w.heap.size 23 #[.bool o', .int .i64 s', .bool i', .int .i64 f'] := by
    refine Blk.below ?_ hb2 (by simp; omega)
    refine Blk.alloc ?_ _
    exact (((K1.put 0 (.bool o')).put 1 (.int .i64 s')).put 2 (.bool i')).put 3 (.int .i64 f')
  have L2 : Blk w2 (w.heap.size + 1) 23 #[.bool false, .int .i64 0, .bool false, .int .i64 0] := by
    refine Blk.below ?_ hb2 (by simp; omega)
    refine Blk.alloc ?_ _
    exact (((K2.away (by simp) _).away (by simp) _).away (by simp) _).away (by simp) _
  have hB : Below w.heap.size w w2 := by
    refine Below.trans ?_ (hb2.mono (by simp; omega))
    exact ((((((((Below.refl _ _).alloc (Nat.le_refl _) _).alloc (by simp) _).trans (hb1.mono (by simp; omega))).setCell (by simp) _).setCell (by simp) _).setCell (by simp) _).setCell (by simp) _).alloc (by simp; omega) _
  have hz2 : w.heap.size + 1 < w2.heap.size := by have := hb2.size; simp at this; omega
  clear hblk hb2 hc hf hb1 hgle K1 K2 hz1
  generalize clT t = T at HN HK hg0 hT
  generalize clT wt = U at HN hg1 hWt
  generalize clT k = K at HK hg2 hK
  go_wp2_with fail
  go_quiet (fail)
  have hB' := below_drewN hB nq
  have L1' := L1.drewN nq
  have L2' := L2.drewN nq
  have hz2' : w.heap.size + 1 < (w2.drewN nq).heap.size := hz2
  clear hg0 hg1 hg2 hB L1 L2 hz2
  generalize w2.drewN nq = W at hB' L1' L2' hz2' ⊢
  have p0 : W.cell? ⟨w.heap.size, 0, none⟩ = some (.bool o') := L1'.cell 0
  have p1 : W.cell? ⟨w.heap.size, 1, none⟩ = some (.int .i64 s') := L1'.cell 1
  have p2 : W.cell? ⟨w.heap.size, 2, none⟩ = some (.bool i') := L1'.cell 2
  have p3 : W.cell? ⟨w.heap.size, 3, none⟩ = some (.int .i64 f') := L1'.cell 3
  have f0 := L1'.frozen 0
  have f1 := L1'.frozen 1
  have f2 := L1'.frozen 2
  have f3 := L1'.frozen 3
  cases c
  · skip
    go_wp2_with fail
    have M1 := ((L1'.put 0 (.bool false)).put 1 (.int .i64 0))
    have M2 := ((L2'.away (p := ⟨w.heap.size, 0, none⟩) (by simp) (.bool false)).away (p := ⟨w.heap.size, 1, none⟩) (by simp) (.int .i64 0))
    have MB := ((hB'.setCell (p := ⟨w.heap.size, 0, none⟩) (Nat.le_refl _) (.bool false)).setCell (p := ⟨w.heap.size, 1, none⟩) (Nat.le_refl _) (.int .i64 0))
    have MZ : w.heap.size + 1 < ((W.setCell ⟨w.heap.size, 0, none⟩ (.bool false)).setCell ⟨w.heap.size, 1, none⟩ (.int .i64 0)).heap.size := by simp; omega
    clear p0 p1 p2 p3 f0 f1 f2 f3 L1' L2' hB' hz2'
    generalize ((W.setCell ⟨w.heap.size, 0, none⟩ (.bool false)).setCell ⟨w.heap.size, 1, none⟩ (.int .i64 0)) = V at M1 M2 MB MZ ⊢
    have p0 : V.cell? ⟨w.heap.size, 0, none⟩ = some (.bool false) := M1.cell 0
    have p1 : V.cell? ⟨w.heap.size, 1, none⟩ = some (.int .i64 0) := M1.cell 1
    have p2 : V.cell? ⟨w.heap.size, 2, none⟩ = some (.bool i') := M1.cell 2
    have p3 : V.cell? ⟨w.heap.size, 3, none⟩ = some (.int .i64 f') := M1.cell 3
    have r0 : V.cell? ⟨w.heap.size + 1, 0, none⟩ = some (.bool false) := M2.cell 0
    have r1 : V.cell? ⟨w.heap.size + 1, 1, none⟩ = some (.int .i64 0) := M2.cell 1
    have r2 : V.cell? ⟨w.heap.size + 1, 2, none⟩ = some (.bool false) := M2.cell 2
    have r3 : V.cell? ⟨w.heap.size + 1, 3, none⟩ = some (.int .i64 0) := M2.cell 3
    have g0 := M2.frozen 0
    have g1 := M2.frozen 1
    have g2 := M2.frozen 2
    have g3 := M2.frozen 3
    clear M1 M2
    go_region_held3 (fun w' => w'.cell? ⟨w.heap.size, 0, none⟩ = some (.bool false) ∧ w'.cell? ⟨w.heap.size, 1, none⟩ = some (.int .i64 0) ∧ w'.cell? ⟨w.heap.size, 2, none⟩ = some (.bool i') ∧ w'.cell? ⟨w.heap.size, 3, none⟩ = some (.int .i64 f'))
      (first | go_keep | (refine ⟨?_, ?_, ?_, ?_⟩ <;> (rw [hcN _ _ (by simp <;> omega)]; first | assumption | (go_simp; done))))
      ((go_at_call 21; refine (now_any false 0 i' f' T K _).mono ?_; rintro e w' ⟨rfl, hb'⟩; obtain ⟨hcN, hfN⟩ := bcell hb'; have hzN : w.heap.size + 1 < w'.heap.size := (by have := hb'.size; simp at this; omega); try have s0 : w'.cell? ⟨w.heap.size + 1, 0, none⟩ = some (.bool false) := (hcN _ _ (by simp <;> omega)).trans r0; try have t0 : w'.frozen? ⟨w.heap.size + 1, 0, none⟩ = false := (hfN _ _ (by simp <;> omega)).trans g0; try have s1 : w'.cell? ⟨w.heap.size + 1, 1, none⟩ = some (.int .i64 0) := (hcN _ _ (by simp <;> omega)).trans r1; try have t1 : w'.frozen? ⟨w.heap.size + 1, 1, none⟩ = false := (hfN _ _ (by simp <;> omega)).trans g1; try have s2 : w'.cell? ⟨w.heap.size + 1, 2, none⟩ = some (.bool false) := (hcN _ _ (by simp <;> omega)).trans r2; try have t2 : w'.frozen? ⟨w.heap.size + 1, 2, none⟩ = false := (hfN _ _ (by simp <;> omega)).trans g2; try have s3 : w'.cell? ⟨w.heap.size + 1, 3, none⟩ = some (.int .i64 0) := (hcN _ _ (by simp <;> omega)).trans r3; try have t3 : w'.frozen? ⟨w.heap.size + 1, 3, none⟩ = false := (hfN _ _ (by simp <;> omega)).trans g3))
    go_wp2
    refine bodyPost_ret (v := .tuple #[.agg #[.bool false, .int .i64 0, .bool i', .int .i64 f'], .int .i64 (now ⟨false, 0, i', f'⟩ T K)]) (by simp [results, Try.results17, go_sem, s0, s1, s2, s3]) rfl ⟨?_, ?_⟩
    · exact step_ends (h' := ⟨false, 0, i', f'⟩) HN.out HK.out rfl
    · exact (((((MB.drew).trans (hb'.mono (by simp; omega))).setCell (by simp) _).setCell (by simp) _).setCell (by simp) _).setCell (by simp) _
  · by_cases hA : o' = true ∧ s' ≤ T
    · obtain ⟨rfl, hle⟩ := hA
      by_cases hw : U ≤ T - s'
      · skip
        go_wp2_with fail
        have M1 := (((L1'.put 0 (.bool true)).put 2 (.bool true)).put 3 (.int .i64 T))
        have M2 := (((L2'.away (p := ⟨w.heap.size, 0, none⟩) (by simp) (.bool true)).away (p := ⟨w.heap.size, 2, none⟩) (by simp) (.bool true)).away (p := ⟨w.heap.size, 3, none⟩) (by simp) (.int .i64 T))
        have MB := (((hB'.setCell (p := ⟨w.heap.size, 0, none⟩) (Nat.le_refl _) (.bool true)).setCell (p := ⟨w.heap.size, 2, none⟩) (Nat.le_refl _) (.bool true)).setCell (p := ⟨w.heap.size, 3, none⟩) (Nat.le_refl _) (.int .i64 T))
        have MZ : w.heap.size + 1 < (((W.setCell ⟨w.heap.size, 0, none⟩ (.bool true)).setCell ⟨w.heap.size, 2, none⟩ (.bool true)).setCell ⟨w.heap.size, 3, none⟩ (.int .i64 T)).heap.size := by simp; omega
        clear p0 p1 p2 p3 f0 f1 f2 f3 L1' L2' hB' hz2'
        generalize (((W.setCell ⟨w.heap.size, 0, none⟩ (.bool true)).setCell ⟨w.heap.size, 2, none⟩ (.bool true)).setCell ⟨w.heap.size, 3, none⟩ (.int .i64 T)) = V at M1 M2 MB MZ ⊢
        have p0 : V.cell? ⟨w.heap.size, 0, none⟩ = some (.bool true) := M1.cell 0
        have p1 : V.cell? ⟨w.heap.size, 1, none⟩ = some (.int .i64 s') := M1.cell 1
        have p2 : V.cell? ⟨w.heap.size, 2, none⟩ = some (.bool true) := M1.cell 2
        have p3 : V.cell? ⟨w.heap.size, 3, none⟩ = some (.int .i64 T) := M1.cell 3
        have r0 : V.cell? ⟨w.heap.size + 1, 0, none⟩ = some (.bool false) := M2.cell 0
        have r1 : V.cell? ⟨w.heap.size + 1, 1, none⟩ = some (.int .i64 0) := M2.cell 1
        have r2 : V.cell? ⟨w.heap.size + 1, 2, none⟩ = some (.bool false) := M2.cell 2
        have r3 : V.cell? ⟨w.heap.size + 1, 3, none⟩ = some (.int .i64 0) := M2.cell 3
        have g0 := M2.frozen 0
        have g1 := M2.frozen 1
        have g2 := M2.frozen 2
        have g3 := M2.frozen 3
        clear M1 M2
        go_region_held3 (fun w' => w'.cell? ⟨w.heap.size, 0, none⟩ = some (.bool true) ∧ w'.cell? ⟨w.heap.size, 1, none⟩ = some (.int .i64 s') ∧ w'.cell? ⟨w.heap.size, 2, none⟩ = some (.bool true) ∧ w'.cell? ⟨w.heap.size, 3, none⟩ = some (.int .i64 T))
          (first | go_keep | (refine ⟨?_, ?_, ?_, ?_⟩ <;> (rw [hcN _ _ (by simp <;> omega)]; first | assumption | (go_simp; done))))
          ((go_at_call 21; refine (now_any true s' true T T K _).mono ?_; rintro e w' ⟨rfl, hb'⟩; obtain ⟨hcN, hfN⟩ := bcell hb'; have hzN : w.heap.size + 1 < w'.heap.size := (by have := hb'.size; simp at this; omega); try have s0 : w'.cell? ⟨w.heap.size + 1, 0, none⟩ = some (.bool false) := (hcN _ _ (by simp <;> omega)).trans r0; try have t0 : w'.frozen? ⟨w.heap.size + 1, 0, none⟩ = false := (hfN _ _ (by simp <;> omega)).trans g0; try have s1 : w'.cell? ⟨w.heap.size + 1, 1, none⟩ = some (.int .i64 0) := (hcN _ _ (by simp <;> omega)).trans r1; try have t1 : w'.frozen? ⟨w.heap.size + 1, 1, none⟩ = false := (hfN _ _ (by simp <;> omega)).trans g1; try have s2 : w'.cell? ⟨w.heap.size + 1, 2, none⟩ = some (.bool false) := (hcN _ _ (by simp <;> omega)).trans r2; try have t2 : w'.frozen? ⟨w.heap.size + 1, 2, none⟩ = false := (hfN _ _ (by simp <;> omega)).trans g2; try have s3 : w'.cell? ⟨w.heap.size + 1, 3, none⟩ = some (.int .i64 0) := (hcN _ _ (by simp <;> omega)).trans r3; try have t3 : w'.frozen? ⟨w.heap.size + 1, 3, none⟩ = false := (hfN _ _ (by simp <;> omega)).trans g3))
        go_wp2
        refine bodyPost_ret (v := .tuple #[.agg #[.bool true, .int .i64 s', .bool true, .int .i64 T], .int .i64 (now ⟨true, s', true, T⟩ T K)]) (by simp [results, Try.results17, go_sem, s0, s1, s2, s3]) rfl ⟨?_, ?_⟩
        · exact step_ends (h' := ⟨true, s', true, T⟩) HN.out HK.out (by simp [step0, hle, hw])
        · exact (((((MB.drew).trans (hb'.mono (by simp; omega))).setCell (by simp) _).setCell (by simp) _).setCell (by simp) _).setCell (by simp) _
      · skip
        go_wp2_with fail
        have M1 := (L1'.put 0 (.bool true))
        have M2 := (L2'.away (p := ⟨w.heap.size, 0, none⟩) (by simp) (.bool true))
        have MB := (hB'.setCell (p := ⟨w.heap.size, 0, none⟩) (Nat.le_refl _) (.bool true))
        have MZ : w.heap.size + 1 < (W.setCell ⟨w.heap.size, 0, none⟩ (.bool true)).heap.size := by simp; omega
        clear p0 p1 p2 p3 f0 f1 f2 f3 L1' L2' hB' hz2'
        generalize (W.setCell ⟨w.heap.size, 0, none⟩ (.bool true)) = V at M1 M2 MB MZ ⊢
        have p0 : V.cell? ⟨w.heap.size, 0, none⟩ = some (.bool true) := M1.cell 0
        have p1 : V.cell? ⟨w.heap.size, 1, none⟩ = some (.int .i64 s') := M1.cell 1
        have p2 : V.cell? ⟨w.heap.size, 2, none⟩ = some (.bool i') := M1.cell 2
        have p3 : V.cell? ⟨w.heap.size, 3, none⟩ = some (.int .i64 f') := M1.cell 3
        have r0 : V.cell? ⟨w.heap.size + 1, 0, none⟩ = some (.bool false) := M2.cell 0
        have r1 : V.cell? ⟨w.heap.size + 1, 1, none⟩ = some (.int .i64 0) := M2.cell 1
        have r2 : V.cell? ⟨w.heap.size + 1, 2, none⟩ = some (.bool false) := M2.cell 2
        have r3 : V.cell? ⟨w.heap.size + 1, 3, none⟩ = some (.int .i64 0) := M2.cell 3
        have g0 := M2.frozen 0
        have g1 := M2.frozen 1
        have g2 := M2.frozen 2
        have g3 := M2.frozen 3
        clear M1 M2
        go_region_held3 (fun w' => w'.cell? ⟨w.heap.size, 0, none⟩ = some (.bool true) ∧ w'.cell? ⟨w.heap.size, 1, none⟩ = some (.int .i64 s') ∧ w'.cell? ⟨w.heap.size, 2, none⟩ = some (.bool i') ∧ w'.cell? ⟨w.heap.size, 3, none⟩ = some (.int .i64 f'))
          (first | go_keep | (refine ⟨?_, ?_, ?_, ?_⟩ <;> (rw [hcN _ _ (by simp <;> omega)]; first | assumption | (go_simp; done))))
          ((go_at_call 21; refine (now_any true s' i' f' T K _).mono ?_; rintro e w' ⟨rfl, hb'⟩; obtain ⟨hcN, hfN⟩ := bcell hb'; have hzN : w.heap.size + 1 < w'.heap.size := (by have := hb'.size; simp at this; omega); try have s0 : w'.cell? ⟨w.heap.size + 1, 0, none⟩ = some (.bool false) := (hcN _ _ (by simp <;> omega)).trans r0; try have t0 : w'.frozen? ⟨w.heap.size + 1, 0, none⟩ = false := (hfN _ _ (by simp <;> omega)).trans g0; try have s1 : w'.cell? ⟨w.heap.size + 1, 1, none⟩ = some (.int .i64 0) := (hcN _ _ (by simp <;> omega)).trans r1; try have t1 : w'.frozen? ⟨w.heap.size + 1, 1, none⟩ = false := (hfN _ _ (by simp <;> omega)).trans g1; try have s2 : w'.cell? ⟨w.heap.size + 1, 2, none⟩ = some (.bool false) := (hcN _ _ (by simp <;> omega)).trans r2; try have t2 : w'.frozen? ⟨w.heap.size + 1, 2, none⟩ = false := (hfN _ _ (by simp <;> omega)).trans g2; try have s3 : w'.cell? ⟨w.heap.size + 1, 3, none⟩ = some (.int .i64 0) := (hcN _ _ (by simp <;> omega)).trans r3; try have t3 : w'.frozen? ⟨w.heap.size + 1, 3, none⟩ = false := (hfN _ _ (by simp <;> omega)).trans g3))
        go_wp2
        refine bodyPost_ret (v := .tuple #[.agg #[.bool true, .int .i64 s', .bool i', .int .i64 f'], .int .i64 (now ⟨true, s', i', f'⟩ T K)]) (by simp [results, Try.results17, go_sem, s0, s1, s2, s3]) rfl ⟨?_, ?_⟩
        · exact step_ends (h' := ⟨true, s', i', f'⟩) HN.out HK.out (by simp [step0, hle, show ¬ U ≤ T - s' by omega])
        · exact (((((MB.drew).trans (hb'.mono (by simp; omega))).setCell (by simp) _).setCell (by simp) _).setCell (by simp) _).setCell (by simp) _
    · by_cases hw : U ≤ 0
      · have hnot : ¬ (o' = true ∧ s' ≤ T) := hA
        cases o'
        · have HH := Lib.hid hnot; clear hnot hA
          go_wp2_with fail
          have M1 := ((((L1'.put 1 (.int .i64 T)).put 0 (.bool true)).put 2 (.bool true)).put 3 (.int .i64 T))
          have M2 := ((((L2'.away (p := ⟨w.heap.size, 1, none⟩) (by simp) (.int .i64 T)).away (p := ⟨w.heap.size, 0, none⟩) (by simp) (.bool true)).away (p := ⟨w.heap.size, 2, none⟩) (by simp) (.bool true)).away (p := ⟨w.heap.size, 3, none⟩) (by simp) (.int .i64 T))
          have MB := ((((hB'.setCell (p := ⟨w.heap.size, 1, none⟩) (Nat.le_refl _) (.int .i64 T)).setCell (p := ⟨w.heap.size, 0, none⟩) (Nat.le_refl _) (.bool true)).setCell (p := ⟨w.heap.size, 2, none⟩) (Nat.le_refl _) (.bool true)).setCell (p := ⟨w.heap.size, 3, none⟩) (Nat.le_refl _) (.int .i64 T))
          have MZ : w.heap.size + 1 < ((((W.setCell ⟨w.heap.size, 1, none⟩ (.int .i64 T)).setCell ⟨w.heap.size, 0, none⟩ (.bool true)).setCell ⟨w.heap.size, 2, none⟩ (.bool true)).setCell ⟨w.heap.size, 3, none⟩ (.int .i64 T)).heap.size := by simp; omega
          clear p0 p1 p2 p3 f0 f1 f2 f3 L1' L2' hB' hz2'
          generalize ((((W.setCell ⟨w.heap.size, 1, none⟩ (.int .i64 T)).setCell ⟨w.heap.size, 0, none⟩ (.bool true)).setCell ⟨w.heap.size, 2, none⟩ (.bool true)).setCell ⟨w.heap.size, 3, none⟩ (.int .i64 T)) = V at M1 M2 MB MZ ⊢
          have p0 : V.cell? ⟨w.heap.size, 0, none⟩ = some (.bool true) := M1.cell 0
          have p1 : V.cell? ⟨w.heap.size, 1, none⟩ = some (.int .i64 T) := M1.cell 1
          have p2 : V.cell? ⟨w.heap.size, 2, none⟩ = some (.bool true) := M1.cell 2
          have p3 : V.cell? ⟨w.heap.size, 3, none⟩ = some (.int .i64 T) := M1.cell 3
          have r0 : V.cell? ⟨w.heap.size + 1, 0, none⟩ = some (.bool false) := M2.cell 0
          have r1 : V.cell? ⟨w.heap.size + 1, 1, none⟩ = some (.int .i64 0) := M2.cell 1
          have r2 : V.cell? ⟨w.heap.size + 1, 2, none⟩ = some (.bool false) := M2.cell 2
          have r3 : V.cell? ⟨w.heap.size + 1, 3, none⟩ = some (.int .i64 0) := M2.cell 3
          have g0 := M2.frozen 0
          have g1 := M2.frozen 1
          have g2 := M2.frozen 2
          have g3 := M2.frozen 3
          clear M1 M2
          go_region_held3 (fun w' => w'.cell? ⟨w.heap.size, 0, none⟩ = some (.bool true) ∧ w'.cell? ⟨w.heap.size, 1, none⟩ = some (.int .i64 T) ∧ w'.cell? ⟨w.heap.size, 2, none⟩ = some (.bool true) ∧ w'.cell? ⟨w.heap.size, 3, none⟩ = some (.int .i64 T))
            (first | go_keep | (refine ⟨?_, ?_, ?_, ?_⟩ <;> (rw [hcN _ _ (by simp <;> omega)]; first | assumption | (go_simp; done))))
            ((go_at_call 21; refine (now_any true T true T T K _).mono ?_; rintro e w' ⟨rfl, hb'⟩; obtain ⟨hcN, hfN⟩ := bcell hb'; have hzN : w.heap.size + 1 < w'.heap.size := (by have := hb'.size; simp at this; omega); try have s0 : w'.cell? ⟨w.heap.size + 1, 0, none⟩ = some (.bool false) := (hcN _ _ (by simp <;> omega)).trans r0; try have t0 : w'.frozen? ⟨w.heap.size + 1, 0, none⟩ = false := (hfN _ _ (by simp <;> omega)).trans g0; try have s1 : w'.cell? ⟨w.heap.size + 1, 1, none⟩ = some (.int .i64 0) := (hcN _ _ (by simp <;> omega)).trans r1; try have t1 : w'.frozen? ⟨w.heap.size + 1, 1, none⟩ = false := (hfN _ _ (by simp <;> omega)).trans g1; try have s2 : w'.cell? ⟨w.heap.size + 1, 2, none⟩ = some (.bool false) := (hcN _ _ (by simp <;> omega)).trans r2; try have t2 : w'.frozen? ⟨w.heap.size + 1, 2, none⟩ = false := (hfN _ _ (by simp <;> omega)).trans g2; try have s3 : w'.cell? ⟨w.heap.size + 1, 3, none⟩ = some (.int .i64 0) := (hcN _ _ (by simp <;> omega)).trans r3; try have t3 : w'.frozen? ⟨w.heap.size + 1, 3, none⟩ = false := (hfN _ _ (by simp <;> omega)).trans g3))
          go_wp2
          refine bodyPost_ret (v := .tuple #[.agg #[.bool true, .int .i64 T, .bool true, .int .i64 T], .int .i64 (now ⟨true, T, true, T⟩ T K)]) (by simp [results, Try.results17, go_sem, s0, s1, s2, s3]) rfl ⟨?_, ?_⟩
          · exact step_ends (h' := ⟨true, T, true, T⟩) HN.out HK.out (by simp [step0, hw])
          · exact (((((MB.drew).trans (hb'.mono (by simp; omega))).setCell (by simp) _).setCell (by simp) _).setCell (by simp) _).setCell (by simp) _
        · have hgt : T < s' := by simp at hnot; omega
          clear hnot hA
          go_wp2_with fail
          have M1 := ((((L1'.put 1 (.int .i64 T)).put 0 (.bool true)).put 2 (.bool true)).put 3 (.int .i64 T))
          have M2 := ((((L2'.away (p := ⟨w.heap.size, 1, none⟩) (by simp) (.int .i64 T)).away (p := ⟨w.heap.size, 0, none⟩) (by simp) (.bool true)).away (p := ⟨w.heap.size, 2, none⟩) (by simp) (.bool true)).away (p := ⟨w.heap.size, 3, none⟩) (by simp) (.int .i64 T))
          have MB := ((((hB'.setCell (p := ⟨w.heap.size, 1, none⟩) (Nat.le_refl _) (.int .i64 T)).setCell (p := ⟨w.heap.size, 0, none⟩) (Nat.le_refl _) (.bool true)).setCell (p := ⟨w.heap.size, 2, none⟩) (Nat.le_refl _) (.bool true)).setCell (p := ⟨w.heap.size, 3, none⟩) (Nat.le_refl _) (.int .i64 T))
          have MZ : w.heap.size + 1 < ((((W.setCell ⟨w.heap.size, 1, none⟩ (.int .i64 T)).setCell ⟨w.heap.size, 0, none⟩ (.bool true)).setCell ⟨w.heap.size, 2, none⟩ (.bool true)).setCell ⟨w.heap.size, 3, none⟩ (.int .i64 T)).heap.size := by simp; omega
          clear p0 p1 p2 p3 f0 f1 f2 f3 L1' L2' hB' hz2'
          generalize ((((W.setCell ⟨w.heap.size, 1, none⟩ (.int .i64 T)).setCell ⟨w.heap.size, 0, none⟩ (.bool true)).setCell ⟨w.heap.size, 2, none⟩ (.bool true)).setCell ⟨w.heap.size, 3, none⟩ (.int .i64 T)) = V at M1 M2 MB MZ ⊢
          have p0 : V.cell? ⟨w.heap.size, 0, none⟩ = some (.bool true) := M1.cell 0
          have p1 : V.cell? ⟨w.heap.size, 1, none⟩ = some (.int .i64 T) := M1.cell 1
          have p2 : V.cell? ⟨w.heap.size, 2, none⟩ = some (.bool true) := M1.cell 2
          have p3 : V.cell? ⟨w.heap.size, 3, none⟩ = some (.int .i64 T) := M1.cell 3
          have r0 : V.cell? ⟨w.heap.size + 1, 0, none⟩ = some (.bool false) := M2.cell 0
          have r1 : V.cell? ⟨w.heap.size + 1, 1, none⟩ = some (.int .i64 0) := M2.cell 1
          have r2 : V.cell? ⟨w.heap.size + 1, 2, none⟩ = some (.bool false) := M2.cell 2
          have r3 : V.cell? ⟨w.heap.size + 1, 3, none⟩ = some (.int .i64 0) := M2.cell 3
          have g0 := M2.frozen 0
          have g1 := M2.frozen 1
          have g2 := M2.frozen 2
          have g3 := M2.frozen 3
          clear M1 M2
          go_region_held3 (fun w' => w'.cell? ⟨w.heap.size, 0, none⟩ = some (.bool true) ∧ w'.cell? ⟨w.heap.size, 1, none⟩ = some (.int .i64 T) ∧ w'.cell? ⟨w.heap.size, 2, none⟩ = some (.bool true) ∧ w'.cell? ⟨w.heap.size, 3, none⟩ = some (.int .i64 T))
            (first | go_keep | (refine ⟨?_, ?_, ?_, ?_⟩ <;> (rw [hcN _ _ (by simp <;> omega)]; first | assumption | (go_simp; done))))
            ((go_at_call 21; refine (now_any true T true T T K _).mono ?_; rintro e w' ⟨rfl, hb'⟩; obtain ⟨hcN, hfN⟩ := bcell hb'; have hzN : w.heap.size + 1 < w'.heap.size := (by have := hb'.size; simp at this; omega); try have s0 : w'.cell? ⟨w.heap.size + 1, 0, none⟩ = some (.bool false) := (hcN _ _ (by simp <;> omega)).trans r0; try have t0 : w'.frozen? ⟨w.heap.size + 1, 0, none⟩ = false := (hfN _ _ (by simp <;> omega)).trans g0; try have s1 : w'.cell? ⟨w.heap.size + 1, 1, none⟩ = some (.int .i64 0) := (hcN _ _ (by simp <;> omega)).trans r1; try have t1 : w'.frozen? ⟨w.heap.size + 1, 1, none⟩ = false := (hfN _ _ (by simp <;> omega)).trans g1; try have s2 : w'.cell? ⟨w.heap.size + 1, 2, none⟩ = some (.bool false) := (hcN _ _ (by simp <;> omega)).trans r2; try have t2 : w'.frozen? ⟨w.heap.size + 1, 2, none⟩ = false := (hfN _ _ (by simp <;> omega)).trans g2; try have s3 : w'.cell? ⟨w.heap.size + 1, 3, none⟩ = some (.int .i64 0) := (hcN _ _ (by simp <;> omega)).trans r3; try have t3 : w'.frozen? ⟨w.heap.size + 1, 3, none⟩ = false := (hfN _ _ (by simp <;> omega)).trans g3))
          go_wp2
          refine bodyPost_ret (v := .tuple #[.agg #[.bool true, .int .i64 T, .bool true, .int .i64 T], .int .i64 (now ⟨true, T, true, T⟩ T K)]) (by simp [results, Try.results17, go_sem, s0, s1, s2, s3]) rfl ⟨?_, ?_⟩
          · exact step_ends (h' := ⟨true, T, true, T⟩) HN.out HK.out (by simp [step0, hw, show ¬ s' ≤ T by omega])
          · exact (((((MB.drew).trans (hb'.mono (by simp; omega))).setCell (by simp) _).setCell (by simp) _).setCell (by simp) _).setCell (by simp) _
      · have hnot : ¬ (o' = true ∧ s' ≤ T) := hA
        cases o'
        · have HH := Lib.hid hnot; clear hnot hA
          go_wp2_with fail
          have M1 := ((L1'.put 1 (.int .i64 T)).put 0 (.bool true))
          have M2 := ((L2'.away (p := ⟨w.heap.size, 1, none⟩) (by simp) (.int .i64 T)).away (p := ⟨w.heap.size, 0, none⟩) (by simp) (.bool true))
          have MB := ((hB'.setCell (p := ⟨w.heap.size, 1, none⟩) (Nat.le_refl _) (.int .i64 T)).setCell (p := ⟨w.heap.size, 0, none⟩) (Nat.le_refl _) (.bool true))
          have MZ : w.heap.size + 1 < ((W.setCell ⟨w.heap.size, 1, none⟩ (.int .i64 T)).setCell ⟨w.heap.size, 0, none⟩ (.bool true)).heap.size := by simp; omega
          clear p0 p1 p2 p3 f0 f1 f2 f3 L1' L2' hB' hz2'
          generalize ((W.setCell ⟨w.heap.size, 1, none⟩ (.int .i64 T)).setCell ⟨w.heap.size, 0, none⟩ (.bool true)) = V at M1 M2 MB MZ ⊢
          have p0 : V.cell? ⟨w.heap.size, 0, none⟩ = some (.bool true) := M1.cell 0
          have p1 : V.cell? ⟨w.heap.size, 1, none⟩ = some (.int .i64 T) := M1.cell 1
          have p2 : V.cell? ⟨w.heap.size, 2, none⟩ = some (.bool i') := M1.cell 2
          have p3 : V.cell? ⟨w.heap.size, 3, none⟩ = some (.int .i64 f') := M1.cell 3
          have r0 : V.cell? ⟨w.heap.size + 1, 0, none⟩ = some (.bool false) := M2.cell 0
          have r1 : V.cell? ⟨w.heap.size + 1, 1, none⟩ = some (.int .i64 0) := M2.cell 1
          have r2 : V.cell? ⟨w.heap.size + 1, 2, none⟩ = some (.bool false) := M2.cell 2
          have r3 : V.cell? ⟨w.heap.size + 1, 3, none⟩ = some (.int .i64 0) := M2.cell 3
          have g0 := M2.frozen 0
          have g1 := M2.frozen 1
          have g2 := M2.frozen 2
          have g3 := M2.frozen 3
          clear M1 M2
          go_region_held3 (fun w' => w'.cell? ⟨w.heap.size, 0, none⟩ = some (.bool true) ∧ w'.cell? ⟨w.heap.size, 1, none⟩ = some (.int .i64 T) ∧ w'.cell? ⟨w.heap.size, 2, none⟩ = some (.bool i') ∧ w'.cell? ⟨w.heap.size, 3, none⟩ = some (.int .i64 f'))
            (first | go_keep | (refine ⟨?_, ?_, ?_, ?_⟩ <;> (rw [hcN _ _ (by simp <;> omega)]; first | assumption | (go_simp; done))))
            ((go_at_call 21; refine (now_any true T i' f' T K _).mono ?_; rintro e w' ⟨rfl, hb'⟩; obtain ⟨hcN, hfN⟩ := bcell hb'; have hzN : w.heap.size + 1 < w'.heap.size := (by have := hb'.size; simp at this; omega); try have s0 : w'.cell? ⟨w.heap.size + 1, 0, none⟩ = some (.bool false) := (hcN _ _ (by simp <;> omega)).trans r0; try have t0 : w'.frozen? ⟨w.heap.size + 1, 0, none⟩ = false := (hfN _ _ (by simp <;> omega)).trans g0; try have s1 : w'.cell? ⟨w.heap.size + 1, 1, none⟩ = some (.int .i64 0) := (hcN _ _ (by simp <;> omega)).trans r1; try have t1 : w'.frozen? ⟨w.heap.size + 1, 1, none⟩ = false := (hfN _ _ (by simp <;> omega)).trans g1; try have s2 : w'.cell? ⟨w.heap.size + 1, 2, none⟩ = some (.bool false) := (hcN _ _ (by simp <;> omega)).trans r2; try have t2 : w'.frozen? ⟨w.heap.size + 1, 2, none⟩ = false := (hfN _ _ (by simp <;> omega)).trans g2; try have s3 : w'.cell? ⟨w.heap.size + 1, 3, none⟩ = some (.int .i64 0) := (hcN _ _ (by simp <;> omega)).trans r3; try have t3 : w'.frozen? ⟨w.heap.size + 1, 3, none⟩ = false := (hfN _ _ (by simp <;> omega)).trans g3))
          go_wp2
          refine bodyPost_ret (v := .tuple #[.agg #[.bool true, .int .i64 T, .bool i', .int .i64 f'], .int .i64 (now ⟨true, T, i', f'⟩ T K)]) (by simp [results, Try.results17, go_sem, s0, s1, s2, s3]) rfl ⟨?_, ?_⟩
          · exact step_ends (h' := ⟨true, T, i', f'⟩) HN.out HK.out (by simp [step0, show ¬ U ≤ 0 by omega])
          · exact (((((MB.drew).trans (hb'.mono (by simp; omega))).setCell (by simp) _).setCell (by simp) _).setCell (by simp) _).setCell (by simp) _
        · have hgt : T < s' := by simp at hnot; omega
          clear hnot hA
          go_wp2_with fail
          have M1 := ((L1'.put 1 (.int .i64 T)).put 0 (.bool true))
          have M2 := ((L2'.away (p := ⟨w.heap.size, 1, none⟩) (by simp) (.int .i64 T)).away (p := ⟨w.heap.size, 0, none⟩) (by simp) (.bool true))
          have MB := ((hB'.setCell (p := ⟨w.heap.size, 1, none⟩) (Nat.le_refl _) (.int .i64 T)).setCell (p := ⟨w.heap.size, 0, none⟩) (Nat.le_refl _) (.bool true))
          have MZ : w.heap.size + 1 < ((W.setCell ⟨w.heap.size, 1, none⟩ (.int .i64 T)).setCell ⟨w.heap.size, 0, none⟩ (.bool true)).heap.size := by simp; omega
          clear p0 p1 p2 p3 f0 f1 f2 f3 L1' L2' hB' hz2'
          generalize ((W.setCell ⟨w.heap.size, 1, none⟩ (.int .i64 T)).setCell ⟨w.heap.size, 0, none⟩ (.bool true)) = V at M1 M2 MB MZ ⊢
          have p0 : V.cell? ⟨w.heap.size, 0, none⟩ = some (.bool true) := M1.cell 0
          have p1 : V.cell? ⟨w.heap.size, 1, none⟩ = some (.int .i64 T) := M1.cell 1
          have p2 : V.cell? ⟨w.heap.size, 2, none⟩ = some (.bool i') := M1.cell 2
          have p3 : V.cell? ⟨w.heap.size, 3, none⟩ = some (.int .i64 f') := M1.cell 3
          have r0 : V.cell? ⟨w.heap.size + 1, 0, none⟩ = some (.bool false) := M2.cell 0
          have r1 : V.cell? ⟨w.heap.size + 1, 1, none⟩ = some (.int .i64 0) := M2.cell 1
          have r2 : V.cell? ⟨w.heap.size + 1, 2, none⟩ = some (.bool false) := M2.cell 2
          have r3 : V.cell? ⟨w.heap.size + 1, 3, none⟩ = some (.int .i64 0) := M2.cell 3
          have g0 := M2.frozen 0
          have g1 := M2.frozen 1
          have g2 := M2.frozen 2
          have g3 := M2.frozen 3
          clear M1 M2
          go_region_held3 (fun w' => w'.cell? ⟨w.heap.size, 0, none⟩ = some (.bool true) ∧ w'.cell? ⟨w.heap.size, 1, none⟩ = some (.int .i64 T) ∧ w'.cell? ⟨w.heap.size, 2, none⟩ = some (.bool i') ∧ w'.cell? ⟨w.heap.size, 3, none⟩ = some (.int .i64 f'))
            (first | go_keep | (refine ⟨?_, ?_, ?_, ?_⟩ <;> (rw [hcN _ _ (by simp <;> omega)]; first | assumption | (go_simp; done))))
            ((go_at_call 21; refine (now_any true T i' f' T K _).mono ?_; rintro e w' ⟨rfl, hb'⟩; obtain ⟨hcN, hfN⟩ := bcell hb'; have hzN : w.heap.size + 1 < w'.heap.size := (by have := hb'.size; simp at this; omega); try have s0 : w'.cell? ⟨w.heap.size + 1, 0, none⟩ = some (.bool false) := (hcN _ _ (by simp <;> omega)).trans r0; try have t0 : w'.frozen? ⟨w.heap.size + 1, 0, none⟩ = false := (hfN _ _ (by simp <;> omega)).trans g0; try have s1 : w'.cell? ⟨w.heap.size + 1, 1, none⟩ = some (.int .i64 0) := (hcN _ _ (by simp <;> omega)).trans r1; try have t1 : w'.frozen? ⟨w.heap.size + 1, 1, none⟩ = false := (hfN _ _ (by simp <;> omega)).trans g1; try have s2 : w'.cell? ⟨w.heap.size + 1, 2, none⟩ = some (.bool false) := (hcN _ _ (by simp <;> omega)).trans r2; try have t2 : w'.frozen? ⟨w.heap.size + 1, 2, none⟩ = false := (hfN _ _ (by simp <;> omega)).trans g2; try have s3 : w'.cell? ⟨w.heap.size + 1, 3, none⟩ = some (.int .i64 0) := (hcN _ _ (by simp <;> omega)).trans r3; try have t3 : w'.frozen? ⟨w.heap.size + 1, 3, none⟩ = false := (hfN _ _ (by simp <;> omega)).trans g3))
          go_wp2
          refine bodyPost_ret (v := .tuple #[.agg #[.bool true, .int .i64 T, .bool i', .int .i64 f'], .int .i64 (now ⟨true, T, i', f'⟩ T K)]) (by simp [results, Try.results17, go_sem, s0, s1, s2, s3]) rfl ⟨?_, ?_⟩
          · exact step_ends (h' := ⟨true, T, i', f'⟩) HN.out HK.out (by simp [step0, show ¬ U ≤ 0 by omega, show ¬ s' ≤ T by omega])
          · exact (((((MB.drew).trans (hb'.mono (by simp; omega))).setCell (by simp) _).setCell (by simp) _).setCell (by simp) _).setCell (by simp) _
end Go.Proofs.Ytcmhceilbampiaa
