/-
  THE REFERENCE's Step (package watchtowerref15), by hold.Step's contract. (The ways of this text were written by gen_rstep.py.)
-/
import Derived.Test.YtcmhceilbampiaaHoldRef
import Derived.Test.YtcmhceilbampiaaHoldStep
import Derived.Test.YtcmhceilbampiaaHoldFacts
namespace Go.Proofs.Ytcmhceilbampiaa
open Go.RowKit
open HoldP
theorem left_right {P : Program} {f : FuncId} {args : Array Value} {W : World} {v : Value} (h : Calls P f args W fun e w' => e = .returned v ∧ W = w') : Calls P f args W fun e w' => e = .returned v ∧ w' = W := h.mono fun _ _ ⟨a, b⟩ => ⟨a, b.symm⟩
set_option maxRecDepth 100000 in
set_option maxHeartbeats 6400000 in
theorem rstep_any (o : Bool) (s : Int) (i : Bool) (f : Int) (c : Bool) (t wt k : Int) (w : World) : Calls Try.prog 18 #[.agg #[.bool o, .int .i64 s, .bool i, .int .i64 f], .bool c, .int .i64 t, .int .i64 wt, .int .i64 k] w fun e w' =>
    e = .returned (.tuple #[.agg (hv (stepH ⟨o, s, i, f⟩ c t wt)), .int .i64 (now (stepH ⟨o, s, i, f⟩ c t wt) t k)]) ∧ Below w.heap.size w w' := by
  have HN := Lib.hid (show stepH ⟨o, s, i, f⟩ c t wt = step0 (cnt ⟨o, s, i, f⟩) c (clT t) (clT wt) from rfl)
  have hsn := sane_bd (sane_cnt ⟨o, s, i, f⟩)
  go_enter Try.func18, Try.ntmps18
  go_wp2_with fail
  refine (ras_any o s i f _).mono ?_
  rintro e w1 ⟨rfl, hb1⟩
  generalize cnt ⟨o, s, i, f⟩ = h at HN hsn ⊢
  obtain ⟨o', s', i', f'⟩ := h
  simp only at hsn
  simp only [hv]
  have hzz : w.heap.size + 1 < w1.heap.size := by have := hb1.size; simp at this; omega
  have K2 : Blk w1 (w.heap.size + 1) 23 #[.bool false, .int .i64 0, .bool false, .int .i64 0] := (blk_new_at (by simp) rfl).below hb1 (by simp)
  have L1' : Blk (w1.alloc (.cells #[.bool o', .int .i64 s', .bool i', .int .i64 f'] 23)) w1.heap.size 23 #[.bool o', .int .i64 s', .bool i', .int .i64 f'] := Blk.new _ _ _
  have L2' := K2.alloc (.cells #[.bool o', .int .i64 s', .bool i', .int .i64 f'] 23)
  have hB' := ((((Below.refl _ _).alloc (Nat.le_refl _) _).alloc (by simp) _).trans (hb1.mono (by simp; omega))).alloc (by omega) (.cells #[.bool o', .int .i64 s', .bool i', .int .i64 f'] 23)
  have hz2' : w1.heap.size < (w1.alloc (.cells #[.bool o', .int .i64 s', .bool i', .int .i64 f'] 23)).heap.size := by simp
  have n0 : w.heap.size + 1 ≠ w1.heap.size := by omega
  clear hb1 K2
  go_wp2_with fail
  generalize w1.alloc (.cells #[.bool o', .int .i64 s', .bool i', .int .i64 f'] 23) = W at hB' L1' L2' hz2' ⊢
  refine (rbring_any t _).mono ?_
  rintro e w2 ⟨rfl, rfl⟩
  have hT := cl_bd t
  have hWt := cl_bd wt
  generalize clT t = T at HN hT ⊢
  have p0 : W.cell? ⟨w1.heap.size, 0, none⟩ = some (.bool o') := L1'.cell 0
  have p1 : W.cell? ⟨w1.heap.size, 1, none⟩ = some (.int .i64 s') := L1'.cell 1
  have p2 : W.cell? ⟨w1.heap.size, 2, none⟩ = some (.bool i') := L1'.cell 2
  have p3 : W.cell? ⟨w1.heap.size, 3, none⟩ = some (.int .i64 f') := L1'.cell 3
  have f0 := L1'.frozen 0
  have f1 := L1'.frozen 1
  have f2 := L1'.frozen 2
  have f3 := L1'.frozen 3
  cases c
  · go_wp2_with fail
    have N1 := ((L1'.put 0 (.bool false)).put 1 (.int .i64 0))
    have N2 := ((L2'.away (p := ⟨w1.heap.size, 0, none⟩) (by simp; omega) (.bool false)).away (p := ⟨w1.heap.size, 1, none⟩) (by simp; omega) (.int .i64 0))
    have NB := ((hB'.setCell (p := ⟨w1.heap.size, 0, none⟩) (by simp; omega) (.bool false)).setCell (p := ⟨w1.heap.size, 1, none⟩) (by simp; omega) (.int .i64 0))
    have NZ : w1.heap.size < ((W.setCell ⟨w1.heap.size, 0, none⟩ (.bool false)).setCell ⟨w1.heap.size, 1, none⟩ (.int .i64 0)).heap.size := by first | omega | (simp; omega)
    clear p0 p1 p2 p3 f0 f1 f2 f3 L1' L2' hB' hz2'
    generalize ((W.setCell ⟨w1.heap.size, 0, none⟩ (.bool false)).setCell ⟨w1.heap.size, 1, none⟩ (.int .i64 0)) = V at N1 N2 NB NZ ⊢
    have p0 : V.cell? ⟨w1.heap.size, 0, none⟩ = some (.bool false) := N1.cell 0
    have p1 : V.cell? ⟨w1.heap.size, 1, none⟩ = some (.int .i64 0) := N1.cell 1
    have p2 : V.cell? ⟨w1.heap.size, 2, none⟩ = some (.bool i') := N1.cell 2
    have p3 : V.cell? ⟨w1.heap.size, 3, none⟩ = some (.int .i64 f') := N1.cell 3
    have f0 := N1.frozen 0
    have f1 := N1.frozen 1
    have f2 := N1.frozen 2
    have f3 := N1.frozen 3
    have M1 := N1
    have M2 := N2
    have MB := NB
    have MZ := NZ
    clear N1 N2 NB NZ
    clear f0 f1 f2 f3
    have r0 : V.cell? ⟨w.heap.size + 1, 0, none⟩ = some (.bool false) := M2.cell 0
    have r1 : V.cell? ⟨w.heap.size + 1, 1, none⟩ = some (.int .i64 0) := M2.cell 1
    have r2 : V.cell? ⟨w.heap.size + 1, 2, none⟩ = some (.bool false) := M2.cell 2
    have r3 : V.cell? ⟨w.heap.size + 1, 3, none⟩ = some (.int .i64 0) := M2.cell 3
    have g0 := M2.frozen 0
    have g1 := M2.frozen 1
    have g2 := M2.frozen 2
    have g3 := M2.frozen 3
    clear M1 M2
    go_region_held3 (fun w' => w'.cell? ⟨w1.heap.size, 0, none⟩ = some (.bool false) ∧ w'.cell? ⟨w1.heap.size, 1, none⟩ = some (.int .i64 0) ∧ w'.cell? ⟨w1.heap.size, 2, none⟩ = some (.bool i') ∧ w'.cell? ⟨w1.heap.size, 3, none⟩ = some (.int .i64 f'))
      (first | go_keep | (refine ⟨?_, ?_, ?_, ?_⟩ <;> (first | assumption | (rw [hcN _ _ (by simp <;> omega)]; first | assumption | (go_simp; done)) | (simp only [World.cell?_setCell_far _ _ _ _ n0, q0, q1, q2, q3]; done))))
      ((go_at_call 22; refine (rnow_any false 0 i' f' t k _).mono ?_; rintro e w' ⟨rfl, hb'⟩; obtain ⟨hcN, hfN⟩ := bcell hb'; have hzN : w1.heap.size < w'.heap.size := (by have := hb'.size; simp at this; omega); try have s0 : w'.cell? ⟨w.heap.size + 1, 0, none⟩ = some (.bool false) := (hcN _ _ (by simp <;> omega)).trans r0; try have t0 : w'.frozen? ⟨w.heap.size + 1, 0, none⟩ = false := (hfN _ _ (by simp <;> omega)).trans g0; try have s1 : w'.cell? ⟨w.heap.size + 1, 1, none⟩ = some (.int .i64 0) := (hcN _ _ (by simp <;> omega)).trans r1; try have t1 : w'.frozen? ⟨w.heap.size + 1, 1, none⟩ = false := (hfN _ _ (by simp <;> omega)).trans g1; try have s2 : w'.cell? ⟨w.heap.size + 1, 2, none⟩ = some (.bool false) := (hcN _ _ (by simp <;> omega)).trans r2; try have t2 : w'.frozen? ⟨w.heap.size + 1, 2, none⟩ = false := (hfN _ _ (by simp <;> omega)).trans g2; try have s3 : w'.cell? ⟨w.heap.size + 1, 3, none⟩ = some (.int .i64 0) := (hcN _ _ (by simp <;> omega)).trans r3; try have t3 : w'.frozen? ⟨w.heap.size + 1, 3, none⟩ = false := (hfN _ _ (by simp <;> omega)).trans g3; have q0 : w'.cell? ⟨w1.heap.size, 0, none⟩ = some (.bool false) := (hcN _ _ (by simp <;> omega)).trans p0; have q1 : w'.cell? ⟨w1.heap.size, 1, none⟩ = some (.int .i64 0) := (hcN _ _ (by simp <;> omega)).trans p1; have q2 : w'.cell? ⟨w1.heap.size, 2, none⟩ = some (.bool i') := (hcN _ _ (by simp <;> omega)).trans p2; have q3 : w'.cell? ⟨w1.heap.size, 3, none⟩ = some (.int .i64 f') := (hcN _ _ (by simp <;> omega)).trans p3))
    go_wp2
    refine bodyPost_ret (v := .tuple #[.agg #[.bool false, .int .i64 0, .bool i', .int .i64 f'], .int .i64 (now ⟨false, 0, i', f'⟩ t k)]) (by simp [results, Try.results18, go_sem, s0, s1, s2, s3]) rfl ⟨?_, ?_⟩
    · exact step_ends (h' := ⟨false, 0, i', f'⟩) HN.out rfl rfl
    · exact (((((MB.drew).trans (hb'.mono (by simp; omega))).setCell (by simp) _).setCell (by simp) _).setCell (by simp) _).setCell (by simp) _
  · by_cases hA : o' = true ∧ s' ≤ T
    · obtain ⟨rfl, hle⟩ := hA
      go_wp2_with fail
      have N1 := (L1'.put 0 (.bool true))
      have N2 := (L2'.away (p := ⟨w1.heap.size, 0, none⟩) (by simp; omega) (.bool true))
      have NB := (hB'.setCell (p := ⟨w1.heap.size, 0, none⟩) (by simp; omega) (.bool true))
      have NZ : w1.heap.size < (W.setCell ⟨w1.heap.size, 0, none⟩ (.bool true)).heap.size := by first | omega | (simp; omega)
      clear p0 p1 p2 p3 f0 f1 f2 f3 L1' L2' hB' hz2'
      generalize (W.setCell ⟨w1.heap.size, 0, none⟩ (.bool true)) = V at N1 N2 NB NZ ⊢
      have p0 : V.cell? ⟨w1.heap.size, 0, none⟩ = some (.bool true) := N1.cell 0
      have p1 : V.cell? ⟨w1.heap.size, 1, none⟩ = some (.int .i64 s') := N1.cell 1
      have p2 : V.cell? ⟨w1.heap.size, 2, none⟩ = some (.bool i') := N1.cell 2
      have p3 : V.cell? ⟨w1.heap.size, 3, none⟩ = some (.int .i64 f') := N1.cell 3
      have f0 := N1.frozen 0
      have f1 := N1.frozen 1
      have f2 := N1.frozen 2
      have f3 := N1.frozen 3
      have M1 := N1
      have M2 := N2
      have MB := NB
      have MZ := NZ
      clear N1 N2 NB NZ
      go_wp2_with fail
      go_quiet ((go_at_call 39; exact Calls.quiet_of_same (left_right (rbring_any wt _))))
      have M1' := M1.drewN nq
      have M2' := M2.drewN nq
      have MB' := below_drewN MB nq
      have MZ' : w1.heap.size < (V.drewN nq).heap.size := MZ
      clear p0 p1 p2 p3 f0 f1 f2 f3 M1 M2 MB MZ
      generalize V.drewN nq = Y at M1' M2' MB' MZ' ⊢
      have p0 : Y.cell? ⟨w1.heap.size, 0, none⟩ = some (.bool true) := M1'.cell 0
      have p1 : Y.cell? ⟨w1.heap.size, 1, none⟩ = some (.int .i64 s') := M1'.cell 1
      have p2 : Y.cell? ⟨w1.heap.size, 2, none⟩ = some (.bool i') := M1'.cell 2
      have p3 : Y.cell? ⟨w1.heap.size, 3, none⟩ = some (.int .i64 f') := M1'.cell 3
      have f0 := M1'.frozen 0
      have f1 := M1'.frozen 1
      have f2 := M1'.frozen 2
      have f3 := M1'.frozen 3
      generalize clT wt = U at HN hWt ⊢
      by_cases hw : U ≤ T - s'
      · go_wp2_with fail
        have N1 := ((M1'.put 2 (.bool true)).put 3 (.int .i64 T))
        have N2 := ((M2'.away (p := ⟨w1.heap.size, 2, none⟩) (by simp; omega) (.bool true)).away (p := ⟨w1.heap.size, 3, none⟩) (by simp; omega) (.int .i64 T))
        have NB := ((MB'.setCell (p := ⟨w1.heap.size, 2, none⟩) (by simp; omega) (.bool true)).setCell (p := ⟨w1.heap.size, 3, none⟩) (by simp; omega) (.int .i64 T))
        have NZ : w1.heap.size < ((Y.setCell ⟨w1.heap.size, 2, none⟩ (.bool true)).setCell ⟨w1.heap.size, 3, none⟩ (.int .i64 T)).heap.size := by first | omega | (simp; omega)
        clear p0 p1 p2 p3 f0 f1 f2 f3 M1' M2' MB' MZ'
        generalize ((Y.setCell ⟨w1.heap.size, 2, none⟩ (.bool true)).setCell ⟨w1.heap.size, 3, none⟩ (.int .i64 T)) = Z at N1 N2 NB NZ ⊢
        have p0 : Z.cell? ⟨w1.heap.size, 0, none⟩ = some (.bool true) := N1.cell 0
        have p1 : Z.cell? ⟨w1.heap.size, 1, none⟩ = some (.int .i64 s') := N1.cell 1
        have p2 : Z.cell? ⟨w1.heap.size, 2, none⟩ = some (.bool true) := N1.cell 2
        have p3 : Z.cell? ⟨w1.heap.size, 3, none⟩ = some (.int .i64 T) := N1.cell 3
        have f0 := N1.frozen 0
        have f1 := N1.frozen 1
        have f2 := N1.frozen 2
        have f3 := N1.frozen 3
        have M1 := N1
        have M2 := N2
        have MB := NB
        have MZ := NZ
        clear N1 N2 NB NZ
        clear f0 f1 f2 f3
        have r0 : Z.cell? ⟨w.heap.size + 1, 0, none⟩ = some (.bool false) := M2.cell 0
        have r1 : Z.cell? ⟨w.heap.size + 1, 1, none⟩ = some (.int .i64 0) := M2.cell 1
        have r2 : Z.cell? ⟨w.heap.size + 1, 2, none⟩ = some (.bool false) := M2.cell 2
        have r3 : Z.cell? ⟨w.heap.size + 1, 3, none⟩ = some (.int .i64 0) := M2.cell 3
        have g0 := M2.frozen 0
        have g1 := M2.frozen 1
        have g2 := M2.frozen 2
        have g3 := M2.frozen 3
        clear M1 M2
        go_region_held3 (fun w' => w'.cell? ⟨w1.heap.size, 0, none⟩ = some (.bool true) ∧ w'.cell? ⟨w1.heap.size, 1, none⟩ = some (.int .i64 s') ∧ w'.cell? ⟨w1.heap.size, 2, none⟩ = some (.bool true) ∧ w'.cell? ⟨w1.heap.size, 3, none⟩ = some (.int .i64 T))
          (first | go_keep | (refine ⟨?_, ?_, ?_, ?_⟩ <;> (first | assumption | (rw [hcN _ _ (by simp <;> omega)]; first | assumption | (go_simp; done)) | (simp only [World.cell?_setCell_far _ _ _ _ n0, q0, q1, q2, q3]; done))))
          ((go_at_call 22; refine (rnow_any true s' true T t k _).mono ?_; rintro e w' ⟨rfl, hb'⟩; obtain ⟨hcN, hfN⟩ := bcell hb'; have hzN : w1.heap.size < w'.heap.size := (by have := hb'.size; simp at this; omega); try have s0 : w'.cell? ⟨w.heap.size + 1, 0, none⟩ = some (.bool false) := (hcN _ _ (by simp <;> omega)).trans r0; try have t0 : w'.frozen? ⟨w.heap.size + 1, 0, none⟩ = false := (hfN _ _ (by simp <;> omega)).trans g0; try have s1 : w'.cell? ⟨w.heap.size + 1, 1, none⟩ = some (.int .i64 0) := (hcN _ _ (by simp <;> omega)).trans r1; try have t1 : w'.frozen? ⟨w.heap.size + 1, 1, none⟩ = false := (hfN _ _ (by simp <;> omega)).trans g1; try have s2 : w'.cell? ⟨w.heap.size + 1, 2, none⟩ = some (.bool false) := (hcN _ _ (by simp <;> omega)).trans r2; try have t2 : w'.frozen? ⟨w.heap.size + 1, 2, none⟩ = false := (hfN _ _ (by simp <;> omega)).trans g2; try have s3 : w'.cell? ⟨w.heap.size + 1, 3, none⟩ = some (.int .i64 0) := (hcN _ _ (by simp <;> omega)).trans r3; try have t3 : w'.frozen? ⟨w.heap.size + 1, 3, none⟩ = false := (hfN _ _ (by simp <;> omega)).trans g3; have q0 : w'.cell? ⟨w1.heap.size, 0, none⟩ = some (.bool true) := (hcN _ _ (by simp <;> omega)).trans p0; have q1 : w'.cell? ⟨w1.heap.size, 1, none⟩ = some (.int .i64 s') := (hcN _ _ (by simp <;> omega)).trans p1; have q2 : w'.cell? ⟨w1.heap.size, 2, none⟩ = some (.bool true) := (hcN _ _ (by simp <;> omega)).trans p2; have q3 : w'.cell? ⟨w1.heap.size, 3, none⟩ = some (.int .i64 T) := (hcN _ _ (by simp <;> omega)).trans p3))
        go_wp2
        refine bodyPost_ret (v := .tuple #[.agg #[.bool true, .int .i64 s', .bool true, .int .i64 T], .int .i64 (now ⟨true, s', true, T⟩ t k)]) (by simp [results, Try.results18, go_sem, s0, s1, s2, s3]) rfl ⟨?_, ?_⟩
        · exact step_ends (h' := ⟨true, s', true, T⟩) HN.out rfl (s0_kk (h := ⟨true, s', i', f'⟩) ⟨rfl, hle⟩ hw)
        · exact (((((MB.drew).trans (hb'.mono (by simp; omega))).setCell (by simp) _).setCell (by simp) _).setCell (by simp) _).setCell (by simp) _
      · go_wp2_with fail
        have N1 := M1'
        have N2 := M2'
        have NB := MB'
        have NZ : w1.heap.size < Y.heap.size := by first | omega | (simp; omega)
        clear p0 p1 p2 p3 f0 f1 f2 f3 M1' M2' MB' MZ'
        generalize Y = Z at N1 N2 NB NZ ⊢
        have p0 : Z.cell? ⟨w1.heap.size, 0, none⟩ = some (.bool true) := N1.cell 0
        have p1 : Z.cell? ⟨w1.heap.size, 1, none⟩ = some (.int .i64 s') := N1.cell 1
        have p2 : Z.cell? ⟨w1.heap.size, 2, none⟩ = some (.bool i') := N1.cell 2
        have p3 : Z.cell? ⟨w1.heap.size, 3, none⟩ = some (.int .i64 f') := N1.cell 3
        have f0 := N1.frozen 0
        have f1 := N1.frozen 1
        have f2 := N1.frozen 2
        have f3 := N1.frozen 3
        have M1 := N1
        have M2 := N2
        have MB := NB
        have MZ := NZ
        clear N1 N2 NB NZ
        clear f0 f1 f2 f3
        have r0 : Z.cell? ⟨w.heap.size + 1, 0, none⟩ = some (.bool false) := M2.cell 0
        have r1 : Z.cell? ⟨w.heap.size + 1, 1, none⟩ = some (.int .i64 0) := M2.cell 1
        have r2 : Z.cell? ⟨w.heap.size + 1, 2, none⟩ = some (.bool false) := M2.cell 2
        have r3 : Z.cell? ⟨w.heap.size + 1, 3, none⟩ = some (.int .i64 0) := M2.cell 3
        have g0 := M2.frozen 0
        have g1 := M2.frozen 1
        have g2 := M2.frozen 2
        have g3 := M2.frozen 3
        clear M1 M2
        go_region_held3 (fun w' => w'.cell? ⟨w1.heap.size, 0, none⟩ = some (.bool true) ∧ w'.cell? ⟨w1.heap.size, 1, none⟩ = some (.int .i64 s') ∧ w'.cell? ⟨w1.heap.size, 2, none⟩ = some (.bool i') ∧ w'.cell? ⟨w1.heap.size, 3, none⟩ = some (.int .i64 f'))
          (first | go_keep | (refine ⟨?_, ?_, ?_, ?_⟩ <;> (first | assumption | (rw [hcN _ _ (by simp <;> omega)]; first | assumption | (go_simp; done)) | (simp only [World.cell?_setCell_far _ _ _ _ n0, q0, q1, q2, q3]; done))))
          ((go_at_call 22; refine (rnow_any true s' i' f' t k _).mono ?_; rintro e w' ⟨rfl, hb'⟩; obtain ⟨hcN, hfN⟩ := bcell hb'; have hzN : w1.heap.size < w'.heap.size := (by have := hb'.size; simp at this; omega); try have s0 : w'.cell? ⟨w.heap.size + 1, 0, none⟩ = some (.bool false) := (hcN _ _ (by simp <;> omega)).trans r0; try have t0 : w'.frozen? ⟨w.heap.size + 1, 0, none⟩ = false := (hfN _ _ (by simp <;> omega)).trans g0; try have s1 : w'.cell? ⟨w.heap.size + 1, 1, none⟩ = some (.int .i64 0) := (hcN _ _ (by simp <;> omega)).trans r1; try have t1 : w'.frozen? ⟨w.heap.size + 1, 1, none⟩ = false := (hfN _ _ (by simp <;> omega)).trans g1; try have s2 : w'.cell? ⟨w.heap.size + 1, 2, none⟩ = some (.bool false) := (hcN _ _ (by simp <;> omega)).trans r2; try have t2 : w'.frozen? ⟨w.heap.size + 1, 2, none⟩ = false := (hfN _ _ (by simp <;> omega)).trans g2; try have s3 : w'.cell? ⟨w.heap.size + 1, 3, none⟩ = some (.int .i64 0) := (hcN _ _ (by simp <;> omega)).trans r3; try have t3 : w'.frozen? ⟨w.heap.size + 1, 3, none⟩ = false := (hfN _ _ (by simp <;> omega)).trans g3; have q0 : w'.cell? ⟨w1.heap.size, 0, none⟩ = some (.bool true) := (hcN _ _ (by simp <;> omega)).trans p0; have q1 : w'.cell? ⟨w1.heap.size, 1, none⟩ = some (.int .i64 s') := (hcN _ _ (by simp <;> omega)).trans p1; have q2 : w'.cell? ⟨w1.heap.size, 2, none⟩ = some (.bool i') := (hcN _ _ (by simp <;> omega)).trans p2; have q3 : w'.cell? ⟨w1.heap.size, 3, none⟩ = some (.int .i64 f') := (hcN _ _ (by simp <;> omega)).trans p3))
        go_wp2
        refine bodyPost_ret (v := .tuple #[.agg #[.bool true, .int .i64 s', .bool i', .int .i64 f'], .int .i64 (now ⟨true, s', i', f'⟩ t k)]) (by simp [results, Try.results18, go_sem, s0, s1, s2, s3]) rfl ⟨?_, ?_⟩
        · exact step_ends (h' := ⟨true, s', i', f'⟩) HN.out rfl (s0_kn (h := ⟨true, s', i', f'⟩) ⟨rfl, hle⟩ (by simp only; omega))
        · exact (((((MB.drew).trans (hb'.mono (by simp; omega))).setCell (by simp) _).setCell (by simp) _).setCell (by simp) _).setCell (by simp) _
    · have HA := Lib.hid hA
      cases o'
      · clear hA
        go_wp2_with fail
        have N1 := ((L1'.put 1 (.int .i64 T)).put 0 (.bool true))
        have N2 := ((L2'.away (p := ⟨w1.heap.size, 1, none⟩) (by simp; omega) (.int .i64 T)).away (p := ⟨w1.heap.size, 0, none⟩) (by simp; omega) (.bool true))
        have NB := ((hB'.setCell (p := ⟨w1.heap.size, 1, none⟩) (by simp; omega) (.int .i64 T)).setCell (p := ⟨w1.heap.size, 0, none⟩) (by simp; omega) (.bool true))
        have NZ : w1.heap.size < ((W.setCell ⟨w1.heap.size, 1, none⟩ (.int .i64 T)).setCell ⟨w1.heap.size, 0, none⟩ (.bool true)).heap.size := by first | omega | (simp; omega)
        clear p0 p1 p2 p3 f0 f1 f2 f3 L1' L2' hB' hz2'
        generalize ((W.setCell ⟨w1.heap.size, 1, none⟩ (.int .i64 T)).setCell ⟨w1.heap.size, 0, none⟩ (.bool true)) = V at N1 N2 NB NZ ⊢
        have p0 : V.cell? ⟨w1.heap.size, 0, none⟩ = some (.bool true) := N1.cell 0
        have p1 : V.cell? ⟨w1.heap.size, 1, none⟩ = some (.int .i64 T) := N1.cell 1
        have p2 : V.cell? ⟨w1.heap.size, 2, none⟩ = some (.bool i') := N1.cell 2
        have p3 : V.cell? ⟨w1.heap.size, 3, none⟩ = some (.int .i64 f') := N1.cell 3
        have f0 := N1.frozen 0
        have f1 := N1.frozen 1
        have f2 := N1.frozen 2
        have f3 := N1.frozen 3
        have M1 := N1
        have M2 := N2
        have MB := NB
        have MZ := NZ
        clear N1 N2 NB NZ
        go_wp2_with fail
        go_quiet ((go_at_call 39; exact Calls.quiet_of_same (left_right (rbring_any wt _))))
        have M1' := M1.drewN nq
        have M2' := M2.drewN nq
        have MB' := below_drewN MB nq
        have MZ' : w1.heap.size < (V.drewN nq).heap.size := MZ
        clear p0 p1 p2 p3 f0 f1 f2 f3 M1 M2 MB MZ
        generalize V.drewN nq = Y at M1' M2' MB' MZ' ⊢
        have p0 : Y.cell? ⟨w1.heap.size, 0, none⟩ = some (.bool true) := M1'.cell 0
        have p1 : Y.cell? ⟨w1.heap.size, 1, none⟩ = some (.int .i64 T) := M1'.cell 1
        have p2 : Y.cell? ⟨w1.heap.size, 2, none⟩ = some (.bool i') := M1'.cell 2
        have p3 : Y.cell? ⟨w1.heap.size, 3, none⟩ = some (.int .i64 f') := M1'.cell 3
        have f0 := M1'.frozen 0
        have f1 := M1'.frozen 1
        have f2 := M1'.frozen 2
        have f3 := M1'.frozen 3
        generalize clT wt = U at HN hWt ⊢
        by_cases hw : U ≤ 0
        · go_wp2_with fail
          have N1 := ((M1'.put 2 (.bool true)).put 3 (.int .i64 T))
          have N2 := ((M2'.away (p := ⟨w1.heap.size, 2, none⟩) (by simp; omega) (.bool true)).away (p := ⟨w1.heap.size, 3, none⟩) (by simp; omega) (.int .i64 T))
          have NB := ((MB'.setCell (p := ⟨w1.heap.size, 2, none⟩) (by simp; omega) (.bool true)).setCell (p := ⟨w1.heap.size, 3, none⟩) (by simp; omega) (.int .i64 T))
          have NZ : w1.heap.size < ((Y.setCell ⟨w1.heap.size, 2, none⟩ (.bool true)).setCell ⟨w1.heap.size, 3, none⟩ (.int .i64 T)).heap.size := by first | omega | (simp; omega)
          clear p0 p1 p2 p3 f0 f1 f2 f3 M1' M2' MB' MZ'
          generalize ((Y.setCell ⟨w1.heap.size, 2, none⟩ (.bool true)).setCell ⟨w1.heap.size, 3, none⟩ (.int .i64 T)) = Z at N1 N2 NB NZ ⊢
          have p0 : Z.cell? ⟨w1.heap.size, 0, none⟩ = some (.bool true) := N1.cell 0
          have p1 : Z.cell? ⟨w1.heap.size, 1, none⟩ = some (.int .i64 T) := N1.cell 1
          have p2 : Z.cell? ⟨w1.heap.size, 2, none⟩ = some (.bool true) := N1.cell 2
          have p3 : Z.cell? ⟨w1.heap.size, 3, none⟩ = some (.int .i64 T) := N1.cell 3
          have f0 := N1.frozen 0
          have f1 := N1.frozen 1
          have f2 := N1.frozen 2
          have f3 := N1.frozen 3
          have M1 := N1
          have M2 := N2
          have MB := NB
          have MZ := NZ
          clear N1 N2 NB NZ
          clear f0 f1 f2 f3
          have r0 : Z.cell? ⟨w.heap.size + 1, 0, none⟩ = some (.bool false) := M2.cell 0
          have r1 : Z.cell? ⟨w.heap.size + 1, 1, none⟩ = some (.int .i64 0) := M2.cell 1
          have r2 : Z.cell? ⟨w.heap.size + 1, 2, none⟩ = some (.bool false) := M2.cell 2
          have r3 : Z.cell? ⟨w.heap.size + 1, 3, none⟩ = some (.int .i64 0) := M2.cell 3
          have g0 := M2.frozen 0
          have g1 := M2.frozen 1
          have g2 := M2.frozen 2
          have g3 := M2.frozen 3
          clear M1 M2
          go_region_held3 (fun w' => w'.cell? ⟨w1.heap.size, 0, none⟩ = some (.bool true) ∧ w'.cell? ⟨w1.heap.size, 1, none⟩ = some (.int .i64 T) ∧ w'.cell? ⟨w1.heap.size, 2, none⟩ = some (.bool true) ∧ w'.cell? ⟨w1.heap.size, 3, none⟩ = some (.int .i64 T))
            (first | go_keep | (refine ⟨?_, ?_, ?_, ?_⟩ <;> (first | assumption | (rw [hcN _ _ (by simp <;> omega)]; first | assumption | (go_simp; done)) | (simp only [World.cell?_setCell_far _ _ _ _ n0, q0, q1, q2, q3]; done))))
            ((go_at_call 22; refine (rnow_any true T true T t k _).mono ?_; rintro e w' ⟨rfl, hb'⟩; obtain ⟨hcN, hfN⟩ := bcell hb'; have hzN : w1.heap.size < w'.heap.size := (by have := hb'.size; simp at this; omega); try have s0 : w'.cell? ⟨w.heap.size + 1, 0, none⟩ = some (.bool false) := (hcN _ _ (by simp <;> omega)).trans r0; try have t0 : w'.frozen? ⟨w.heap.size + 1, 0, none⟩ = false := (hfN _ _ (by simp <;> omega)).trans g0; try have s1 : w'.cell? ⟨w.heap.size + 1, 1, none⟩ = some (.int .i64 0) := (hcN _ _ (by simp <;> omega)).trans r1; try have t1 : w'.frozen? ⟨w.heap.size + 1, 1, none⟩ = false := (hfN _ _ (by simp <;> omega)).trans g1; try have s2 : w'.cell? ⟨w.heap.size + 1, 2, none⟩ = some (.bool false) := (hcN _ _ (by simp <;> omega)).trans r2; try have t2 : w'.frozen? ⟨w.heap.size + 1, 2, none⟩ = false := (hfN _ _ (by simp <;> omega)).trans g2; try have s3 : w'.cell? ⟨w.heap.size + 1, 3, none⟩ = some (.int .i64 0) := (hcN _ _ (by simp <;> omega)).trans r3; try have t3 : w'.frozen? ⟨w.heap.size + 1, 3, none⟩ = false := (hfN _ _ (by simp <;> omega)).trans g3; have q0 : w'.cell? ⟨w1.heap.size, 0, none⟩ = some (.bool true) := (hcN _ _ (by simp <;> omega)).trans p0; have q1 : w'.cell? ⟨w1.heap.size, 1, none⟩ = some (.int .i64 T) := (hcN _ _ (by simp <;> omega)).trans p1; have q2 : w'.cell? ⟨w1.heap.size, 2, none⟩ = some (.bool true) := (hcN _ _ (by simp <;> omega)).trans p2; have q3 : w'.cell? ⟨w1.heap.size, 3, none⟩ = some (.int .i64 T) := (hcN _ _ (by simp <;> omega)).trans p3))
          go_wp2
          refine bodyPost_ret (v := .tuple #[.agg #[.bool true, .int .i64 T, .bool true, .int .i64 T], .int .i64 (now ⟨true, T, true, T⟩ t k)]) (by simp [results, Try.results18, go_sem, s0, s1, s2, s3]) rfl ⟨?_, ?_⟩
          · exact step_ends (h' := ⟨true, T, true, T⟩) HN.out rfl (s0_nk (h := ⟨false, s', i', f'⟩) (fun h => nomatch h.1) hw)
          · exact (((((MB.drew).trans (hb'.mono (by simp; omega))).setCell (by simp) _).setCell (by simp) _).setCell (by simp) _).setCell (by simp) _
        · go_wp2_with fail
          have N1 := M1'
          have N2 := M2'
          have NB := MB'
          have NZ : w1.heap.size < Y.heap.size := by first | omega | (simp; omega)
          clear p0 p1 p2 p3 f0 f1 f2 f3 M1' M2' MB' MZ'
          generalize Y = Z at N1 N2 NB NZ ⊢
          have p0 : Z.cell? ⟨w1.heap.size, 0, none⟩ = some (.bool true) := N1.cell 0
          have p1 : Z.cell? ⟨w1.heap.size, 1, none⟩ = some (.int .i64 T) := N1.cell 1
          have p2 : Z.cell? ⟨w1.heap.size, 2, none⟩ = some (.bool i') := N1.cell 2
          have p3 : Z.cell? ⟨w1.heap.size, 3, none⟩ = some (.int .i64 f') := N1.cell 3
          have f0 := N1.frozen 0
          have f1 := N1.frozen 1
          have f2 := N1.frozen 2
          have f3 := N1.frozen 3
          have M1 := N1
          have M2 := N2
          have MB := NB
          have MZ := NZ
          clear N1 N2 NB NZ
          clear f0 f1 f2 f3
          have r0 : Z.cell? ⟨w.heap.size + 1, 0, none⟩ = some (.bool false) := M2.cell 0
          have r1 : Z.cell? ⟨w.heap.size + 1, 1, none⟩ = some (.int .i64 0) := M2.cell 1
          have r2 : Z.cell? ⟨w.heap.size + 1, 2, none⟩ = some (.bool false) := M2.cell 2
          have r3 : Z.cell? ⟨w.heap.size + 1, 3, none⟩ = some (.int .i64 0) := M2.cell 3
          have g0 := M2.frozen 0
          have g1 := M2.frozen 1
          have g2 := M2.frozen 2
          have g3 := M2.frozen 3
          clear M1 M2
          go_region_held3 (fun w' => w'.cell? ⟨w1.heap.size, 0, none⟩ = some (.bool true) ∧ w'.cell? ⟨w1.heap.size, 1, none⟩ = some (.int .i64 T) ∧ w'.cell? ⟨w1.heap.size, 2, none⟩ = some (.bool i') ∧ w'.cell? ⟨w1.heap.size, 3, none⟩ = some (.int .i64 f'))
            (first | go_keep | (refine ⟨?_, ?_, ?_, ?_⟩ <;> (first | assumption | (rw [hcN _ _ (by simp <;> omega)]; first | assumption | (go_simp; done)) | (simp only [World.cell?_setCell_far _ _ _ _ n0, q0, q1, q2, q3]; done))))
            ((go_at_call 22; refine (rnow_any true T i' f' t k _).mono ?_; rintro e w' ⟨rfl, hb'⟩; obtain ⟨hcN, hfN⟩ := bcell hb'; have hzN : w1.heap.size < w'.heap.size := (by have := hb'.size; simp at this; omega); try have s0 : w'.cell? ⟨w.heap.size + 1, 0, none⟩ = some (.bool false) := (hcN _ _ (by simp <;> omega)).trans r0; try have t0 : w'.frozen? ⟨w.heap.size + 1, 0, none⟩ = false := (hfN _ _ (by simp <;> omega)).trans g0; try have s1 : w'.cell? ⟨w.heap.size + 1, 1, none⟩ = some (.int .i64 0) := (hcN _ _ (by simp <;> omega)).trans r1; try have t1 : w'.frozen? ⟨w.heap.size + 1, 1, none⟩ = false := (hfN _ _ (by simp <;> omega)).trans g1; try have s2 : w'.cell? ⟨w.heap.size + 1, 2, none⟩ = some (.bool false) := (hcN _ _ (by simp <;> omega)).trans r2; try have t2 : w'.frozen? ⟨w.heap.size + 1, 2, none⟩ = false := (hfN _ _ (by simp <;> omega)).trans g2; try have s3 : w'.cell? ⟨w.heap.size + 1, 3, none⟩ = some (.int .i64 0) := (hcN _ _ (by simp <;> omega)).trans r3; try have t3 : w'.frozen? ⟨w.heap.size + 1, 3, none⟩ = false := (hfN _ _ (by simp <;> omega)).trans g3; have q0 : w'.cell? ⟨w1.heap.size, 0, none⟩ = some (.bool true) := (hcN _ _ (by simp <;> omega)).trans p0; have q1 : w'.cell? ⟨w1.heap.size, 1, none⟩ = some (.int .i64 T) := (hcN _ _ (by simp <;> omega)).trans p1; have q2 : w'.cell? ⟨w1.heap.size, 2, none⟩ = some (.bool i') := (hcN _ _ (by simp <;> omega)).trans p2; have q3 : w'.cell? ⟨w1.heap.size, 3, none⟩ = some (.int .i64 f') := (hcN _ _ (by simp <;> omega)).trans p3))
          go_wp2
          refine bodyPost_ret (v := .tuple #[.agg #[.bool true, .int .i64 T, .bool i', .int .i64 f'], .int .i64 (now ⟨true, T, i', f'⟩ t k)]) (by simp [results, Try.results18, go_sem, s0, s1, s2, s3]) rfl ⟨?_, ?_⟩
          · exact step_ends (h' := ⟨true, T, i', f'⟩) HN.out rfl (s0_nn (h := ⟨false, s', i', f'⟩) (fun h => nomatch h.1) (by omega))
          · exact (((((MB.drew).trans (hb'.mono (by simp; omega))).setCell (by simp) _).setCell (by simp) _).setCell (by simp) _).setCell (by simp) _
      · have hgt : T < s' := by simp at hA; omega
        clear hA
        go_wp2_with fail
        have N1 := ((L1'.put 1 (.int .i64 T)).put 0 (.bool true))
        have N2 := ((L2'.away (p := ⟨w1.heap.size, 1, none⟩) (by simp; omega) (.int .i64 T)).away (p := ⟨w1.heap.size, 0, none⟩) (by simp; omega) (.bool true))
        have NB := ((hB'.setCell (p := ⟨w1.heap.size, 1, none⟩) (by simp; omega) (.int .i64 T)).setCell (p := ⟨w1.heap.size, 0, none⟩) (by simp; omega) (.bool true))
        have NZ : w1.heap.size < ((W.setCell ⟨w1.heap.size, 1, none⟩ (.int .i64 T)).setCell ⟨w1.heap.size, 0, none⟩ (.bool true)).heap.size := by first | omega | (simp; omega)
        clear p0 p1 p2 p3 f0 f1 f2 f3 L1' L2' hB' hz2'
        generalize ((W.setCell ⟨w1.heap.size, 1, none⟩ (.int .i64 T)).setCell ⟨w1.heap.size, 0, none⟩ (.bool true)) = V at N1 N2 NB NZ ⊢
        have p0 : V.cell? ⟨w1.heap.size, 0, none⟩ = some (.bool true) := N1.cell 0
        have p1 : V.cell? ⟨w1.heap.size, 1, none⟩ = some (.int .i64 T) := N1.cell 1
        have p2 : V.cell? ⟨w1.heap.size, 2, none⟩ = some (.bool i') := N1.cell 2
        have p3 : V.cell? ⟨w1.heap.size, 3, none⟩ = some (.int .i64 f') := N1.cell 3
        have f0 := N1.frozen 0
        have f1 := N1.frozen 1
        have f2 := N1.frozen 2
        have f3 := N1.frozen 3
        have M1 := N1
        have M2 := N2
        have MB := NB
        have MZ := NZ
        clear N1 N2 NB NZ
        go_wp2_with fail
        go_quiet ((go_at_call 39; exact Calls.quiet_of_same (left_right (rbring_any wt _))))
        have M1' := M1.drewN nq
        have M2' := M2.drewN nq
        have MB' := below_drewN MB nq
        have MZ' : w1.heap.size < (V.drewN nq).heap.size := MZ
        clear p0 p1 p2 p3 f0 f1 f2 f3 M1 M2 MB MZ
        generalize V.drewN nq = Y at M1' M2' MB' MZ' ⊢
        have p0 : Y.cell? ⟨w1.heap.size, 0, none⟩ = some (.bool true) := M1'.cell 0
        have p1 : Y.cell? ⟨w1.heap.size, 1, none⟩ = some (.int .i64 T) := M1'.cell 1
        have p2 : Y.cell? ⟨w1.heap.size, 2, none⟩ = some (.bool i') := M1'.cell 2
        have p3 : Y.cell? ⟨w1.heap.size, 3, none⟩ = some (.int .i64 f') := M1'.cell 3
        have f0 := M1'.frozen 0
        have f1 := M1'.frozen 1
        have f2 := M1'.frozen 2
        have f3 := M1'.frozen 3
        generalize clT wt = U at HN hWt ⊢
        by_cases hw : U ≤ 0
        · go_wp2_with fail
          have N1 := ((M1'.put 2 (.bool true)).put 3 (.int .i64 T))
          have N2 := ((M2'.away (p := ⟨w1.heap.size, 2, none⟩) (by simp; omega) (.bool true)).away (p := ⟨w1.heap.size, 3, none⟩) (by simp; omega) (.int .i64 T))
          have NB := ((MB'.setCell (p := ⟨w1.heap.size, 2, none⟩) (by simp; omega) (.bool true)).setCell (p := ⟨w1.heap.size, 3, none⟩) (by simp; omega) (.int .i64 T))
          have NZ : w1.heap.size < ((Y.setCell ⟨w1.heap.size, 2, none⟩ (.bool true)).setCell ⟨w1.heap.size, 3, none⟩ (.int .i64 T)).heap.size := by first | omega | (simp; omega)
          clear p0 p1 p2 p3 f0 f1 f2 f3 M1' M2' MB' MZ'
          generalize ((Y.setCell ⟨w1.heap.size, 2, none⟩ (.bool true)).setCell ⟨w1.heap.size, 3, none⟩ (.int .i64 T)) = Z at N1 N2 NB NZ ⊢
          have p0 : Z.cell? ⟨w1.heap.size, 0, none⟩ = some (.bool true) := N1.cell 0
          have p1 : Z.cell? ⟨w1.heap.size, 1, none⟩ = some (.int .i64 T) := N1.cell 1
          have p2 : Z.cell? ⟨w1.heap.size, 2, none⟩ = some (.bool true) := N1.cell 2
          have p3 : Z.cell? ⟨w1.heap.size, 3, none⟩ = some (.int .i64 T) := N1.cell 3
          have f0 := N1.frozen 0
          have f1 := N1.frozen 1
          have f2 := N1.frozen 2
          have f3 := N1.frozen 3
          have M1 := N1
          have M2 := N2
          have MB := NB
          have MZ := NZ
          clear N1 N2 NB NZ
          clear f0 f1 f2 f3
          have r0 : Z.cell? ⟨w.heap.size + 1, 0, none⟩ = some (.bool false) := M2.cell 0
          have r1 : Z.cell? ⟨w.heap.size + 1, 1, none⟩ = some (.int .i64 0) := M2.cell 1
          have r2 : Z.cell? ⟨w.heap.size + 1, 2, none⟩ = some (.bool false) := M2.cell 2
          have r3 : Z.cell? ⟨w.heap.size + 1, 3, none⟩ = some (.int .i64 0) := M2.cell 3
          have g0 := M2.frozen 0
          have g1 := M2.frozen 1
          have g2 := M2.frozen 2
          have g3 := M2.frozen 3
          clear M1 M2
          go_region_held3 (fun w' => w'.cell? ⟨w1.heap.size, 0, none⟩ = some (.bool true) ∧ w'.cell? ⟨w1.heap.size, 1, none⟩ = some (.int .i64 T) ∧ w'.cell? ⟨w1.heap.size, 2, none⟩ = some (.bool true) ∧ w'.cell? ⟨w1.heap.size, 3, none⟩ = some (.int .i64 T))
            (first | go_keep | (refine ⟨?_, ?_, ?_, ?_⟩ <;> (first | assumption | (rw [hcN _ _ (by simp <;> omega)]; first | assumption | (go_simp; done)) | (simp only [World.cell?_setCell_far _ _ _ _ n0, q0, q1, q2, q3]; done))))
            ((go_at_call 22; refine (rnow_any true T true T t k _).mono ?_; rintro e w' ⟨rfl, hb'⟩; obtain ⟨hcN, hfN⟩ := bcell hb'; have hzN : w1.heap.size < w'.heap.size := (by have := hb'.size; simp at this; omega); try have s0 : w'.cell? ⟨w.heap.size + 1, 0, none⟩ = some (.bool false) := (hcN _ _ (by simp <;> omega)).trans r0; try have t0 : w'.frozen? ⟨w.heap.size + 1, 0, none⟩ = false := (hfN _ _ (by simp <;> omega)).trans g0; try have s1 : w'.cell? ⟨w.heap.size + 1, 1, none⟩ = some (.int .i64 0) := (hcN _ _ (by simp <;> omega)).trans r1; try have t1 : w'.frozen? ⟨w.heap.size + 1, 1, none⟩ = false := (hfN _ _ (by simp <;> omega)).trans g1; try have s2 : w'.cell? ⟨w.heap.size + 1, 2, none⟩ = some (.bool false) := (hcN _ _ (by simp <;> omega)).trans r2; try have t2 : w'.frozen? ⟨w.heap.size + 1, 2, none⟩ = false := (hfN _ _ (by simp <;> omega)).trans g2; try have s3 : w'.cell? ⟨w.heap.size + 1, 3, none⟩ = some (.int .i64 0) := (hcN _ _ (by simp <;> omega)).trans r3; try have t3 : w'.frozen? ⟨w.heap.size + 1, 3, none⟩ = false := (hfN _ _ (by simp <;> omega)).trans g3; have q0 : w'.cell? ⟨w1.heap.size, 0, none⟩ = some (.bool true) := (hcN _ _ (by simp <;> omega)).trans p0; have q1 : w'.cell? ⟨w1.heap.size, 1, none⟩ = some (.int .i64 T) := (hcN _ _ (by simp <;> omega)).trans p1; have q2 : w'.cell? ⟨w1.heap.size, 2, none⟩ = some (.bool true) := (hcN _ _ (by simp <;> omega)).trans p2; have q3 : w'.cell? ⟨w1.heap.size, 3, none⟩ = some (.int .i64 T) := (hcN _ _ (by simp <;> omega)).trans p3))
          go_wp2
          refine bodyPost_ret (v := .tuple #[.agg #[.bool true, .int .i64 T, .bool true, .int .i64 T], .int .i64 (now ⟨true, T, true, T⟩ t k)]) (by simp [results, Try.results18, go_sem, s0, s1, s2, s3]) rfl ⟨?_, ?_⟩
          · exact step_ends (h' := ⟨true, T, true, T⟩) HN.out rfl (s0_nk (h := ⟨true, s', i', f'⟩) (fun h => by have h2 := h.2; simp only at h2; omega) hw)
          · exact (((((MB.drew).trans (hb'.mono (by simp; omega))).setCell (by simp) _).setCell (by simp) _).setCell (by simp) _).setCell (by simp) _
        · go_wp2_with fail
          have N1 := M1'
          have N2 := M2'
          have NB := MB'
          have NZ : w1.heap.size < Y.heap.size := by first | omega | (simp; omega)
          clear p0 p1 p2 p3 f0 f1 f2 f3 M1' M2' MB' MZ'
          generalize Y = Z at N1 N2 NB NZ ⊢
          have p0 : Z.cell? ⟨w1.heap.size, 0, none⟩ = some (.bool true) := N1.cell 0
          have p1 : Z.cell? ⟨w1.heap.size, 1, none⟩ = some (.int .i64 T) := N1.cell 1
          have p2 : Z.cell? ⟨w1.heap.size, 2, none⟩ = some (.bool i') := N1.cell 2
          have p3 : Z.cell? ⟨w1.heap.size, 3, none⟩ = some (.int .i64 f') := N1.cell 3
          have f0 := N1.frozen 0
          have f1 := N1.frozen 1
          have f2 := N1.frozen 2
          have f3 := N1.frozen 3
          have M1 := N1
          have M2 := N2
          have MB := NB
          have MZ := NZ
          clear N1 N2 NB NZ
          clear f0 f1 f2 f3
          have r0 : Z.cell? ⟨w.heap.size + 1, 0, none⟩ = some (.bool false) := M2.cell 0
          have r1 : Z.cell? ⟨w.heap.size + 1, 1, none⟩ = some (.int .i64 0) := M2.cell 1
          have r2 : Z.cell? ⟨w.heap.size + 1, 2, none⟩ = some (.bool false) := M2.cell 2
          have r3 : Z.cell? ⟨w.heap.size + 1, 3, none⟩ = some (.int .i64 0) := M2.cell 3
          have g0 := M2.frozen 0
          have g1 := M2.frozen 1
          have g2 := M2.frozen 2
          have g3 := M2.frozen 3
          clear M1 M2
          go_region_held3 (fun w' => w'.cell? ⟨w1.heap.size, 0, none⟩ = some (.bool true) ∧ w'.cell? ⟨w1.heap.size, 1, none⟩ = some (.int .i64 T) ∧ w'.cell? ⟨w1.heap.size, 2, none⟩ = some (.bool i') ∧ w'.cell? ⟨w1.heap.size, 3, none⟩ = some (.int .i64 f'))
            (first | go_keep | (refine ⟨?_, ?_, ?_, ?_⟩ <;> (first | assumption | (rw [hcN _ _ (by simp <;> omega)]; first | assumption | (go_simp; done)) | (simp only [World.cell?_setCell_far _ _ _ _ n0, q0, q1, q2, q3]; done))))
            ((go_at_call 22; refine (rnow_any true T i' f' t k _).mono ?_; rintro e w' ⟨rfl, hb'⟩; obtain ⟨hcN, hfN⟩ := bcell hb'; have hzN : w1.heap.size < w'.heap.size := (by have := hb'.size; simp at this; omega); try have s0 : w'.cell? ⟨w.heap.size + 1, 0, none⟩ = some (.bool false) := (hcN _ _ (by simp <;> omega)).trans r0; try have t0 : w'.frozen? ⟨w.heap.size + 1, 0, none⟩ = false := (hfN _ _ (by simp <;> omega)).trans g0; try have s1 : w'.cell? ⟨w.heap.size + 1, 1, none⟩ = some (.int .i64 0) := (hcN _ _ (by simp <;> omega)).trans r1; try have t1 : w'.frozen? ⟨w.heap.size + 1, 1, none⟩ = false := (hfN _ _ (by simp <;> omega)).trans g1; try have s2 : w'.cell? ⟨w.heap.size + 1, 2, none⟩ = some (.bool false) := (hcN _ _ (by simp <;> omega)).trans r2; try have t2 : w'.frozen? ⟨w.heap.size + 1, 2, none⟩ = false := (hfN _ _ (by simp <;> omega)).trans g2; try have s3 : w'.cell? ⟨w.heap.size + 1, 3, none⟩ = some (.int .i64 0) := (hcN _ _ (by simp <;> omega)).trans r3; try have t3 : w'.frozen? ⟨w.heap.size + 1, 3, none⟩ = false := (hfN _ _ (by simp <;> omega)).trans g3; have q0 : w'.cell? ⟨w1.heap.size, 0, none⟩ = some (.bool true) := (hcN _ _ (by simp <;> omega)).trans p0; have q1 : w'.cell? ⟨w1.heap.size, 1, none⟩ = some (.int .i64 T) := (hcN _ _ (by simp <;> omega)).trans p1; have q2 : w'.cell? ⟨w1.heap.size, 2, none⟩ = some (.bool i') := (hcN _ _ (by simp <;> omega)).trans p2; have q3 : w'.cell? ⟨w1.heap.size, 3, none⟩ = some (.int .i64 f') := (hcN _ _ (by simp <;> omega)).trans p3))
          go_wp2
          refine bodyPost_ret (v := .tuple #[.agg #[.bool true, .int .i64 T, .bool i', .int .i64 f'], .int .i64 (now ⟨true, T, i', f'⟩ t k)]) (by simp [results, Try.results18, go_sem, s0, s1, s2, s3]) rfl ⟨?_, ?_⟩
          · exact step_ends (h' := ⟨true, T, i', f'⟩) HN.out rfl (s0_nn (h := ⟨true, s', i', f'⟩) (fun h => by have h2 := h.2; simp only at h2; omega) (by omega))
          · exact (((((MB.drew).trans (hb'.mono (by simp; omega))).setCell (by simp) _).setCell (by simp) _).setCell (by simp) _).setCell (by simp) _
end Go.Proofs.Ytcmhceilbampiaa
