/-
  THE REFERENCE's Gone (package watchtowerref15), by hold.Gone's contract.
-/
import Derived.Test.YtcmhceilbampiaaHoldRefStep
import Derived.Test.YtcmhceilbampiaaBel
namespace Go.Proofs.Ytcmhceilbampiaa
open Go.RowKit
open HoldP
set_option linter.unusedVariables false
set_option maxRecDepth 100000 in
set_option maxHeartbeats 3200000 in
theorem rgone_any (o : Bool) (s : Int) (i : Bool) (f : Int) (t k : Int) (w : World) : Calls Try.prog 24 #[.agg #[.bool o, .int .i64 s, .bool i, .int .i64 f], .int .i64 t, .int .i64 k] w fun e w' => e = .returned (.bool (gone ⟨o, s, i, f⟩ t k)) ∧ Below w.heap.size w w' := by
  have HN := Lib.hid (show gone ⟨o, s, i, f⟩ t k = gone0 (cnt ⟨o, s, i, f⟩) (clT t) (clT k) from rfl)
  have HM := Lib.hid (show now (cnt ⟨o, s, i, f⟩) t k = now0 (cnt ⟨o, s, i, f⟩) (clT t) (clT k) from by unfold now; rw [cnt_cnt])
  have hsn := sane_bd (sane_cnt ⟨o, s, i, f⟩)
  go_enter Try.func24, Try.ntmps24
  go_wp2_with fail
  refine (ras_any o s i f _).mono ?_
  rintro e w1 ⟨rfl, hb1⟩
  generalize cnt ⟨o, s, i, f⟩ = h at HN HM hsn ⊢
  obtain ⟨o', s', i', f'⟩ := h
  simp only at hsn
  simp only [hv]
  have hzz : w.heap.size < w1.heap.size := by have := hb1.size; simp at this; omega
  have L1' : Blk (w1.alloc (.cells #[.bool o', .int .i64 s', .bool i', .int .i64 f'] 23)) w1.heap.size 23 #[.bool o', .int .i64 s', .bool i', .int .i64 f'] := Blk.new _ _ _
  have hB' := (((Below.refl _ _).alloc (Nat.le_refl _) _).trans (hb1.mono (by simp))).alloc (by omega) (.cells #[.bool o', .int .i64 s', .bool i', .int .i64 f'] 23)
  have hz2' : w1.heap.size < (w1.alloc (.cells #[.bool o', .int .i64 s', .bool i', .int .i64 f'] 23)).heap.size := by simp
  clear hb1
  go_wp2_with fail
  generalize w1.alloc (.cells #[.bool o', .int .i64 s', .bool i', .int .i64 f'] 23) = W at hB' L1' hz2' ⊢
  refine (rbring_any t _).mono ?_
  rintro e w2 ⟨rfl, rfl⟩
  have hT := cl_bd t
  have hK := cl_bd k
  obtain ⟨N, hNe⟩ : ∃ N, now ⟨o', s', i', f'⟩ t k = N := ⟨_, rfl⟩
  have CN := Lib.hid (show ∀ W', Calls Try.prog 22 #[.agg #[.bool o', .int .i64 s', .bool i', .int .i64 f'], .int .i64 t, .int .i64 k] W' fun e w' => e = .returned (.int .i64 N) ∧ Below W'.heap.size W' w' from fun W' => by rw [← hNe]; exact rnow_any o' s' i' f' t k W')
  obtain ⟨K, hKe⟩ : ∃ K, clT k = K := ⟨_, rfl⟩
  have CB := Lib.hid (show ∀ W', Calls Try.prog 39 #[.int .i64 k] W' fun e w' => e = .returned (.int .i64 K) ∧ W' = w' from fun W' => by rw [← hKe]; exact rbring_any k W')
  rw [hNe] at HM
  rw [hKe] at HN HM hK
  clear hNe hKe
  generalize clT t = T at HN HM hT ⊢
  have p0 : W.cell? ⟨w1.heap.size, 0, none⟩ = some (.bool o') := L1'.cell 0
  have p1 : W.cell? ⟨w1.heap.size, 1, none⟩ = some (.int .i64 s') := L1'.cell 1
  have p2 : W.cell? ⟨w1.heap.size, 2, none⟩ = some (.bool i') := L1'.cell 2
  have p3 : W.cell? ⟨w1.heap.size, 3, none⟩ = some (.int .i64 f') := L1'.cell 3
  clear L1'
  have HG := Lib.hid (show gone0 ⟨o', s', i', f'⟩ T K = ((N == 0) && !o' && (!i' || (decide (f' < T) && decide (K ≤ T - f')))) from by unfold gone0; rw [← HM.out])
  have CNq := Lib.hid (show ∀ p : Bel W, Calls Try.prog 22 #[.agg #[.bool o', .int .i64 s', .bool i', .int .i64 f'], .int .i64 t, .int .i64 k] p.now fun e w'' => e = .returned (.int .i64 N) ∧ ∃ q : Bel W, w'' = q.now from fun p => Calls.bel_of (CN.out p.now))
  have CBq := Lib.hid (show ∀ p : Bel W, Calls Try.prog 39 #[.int .i64 k] p.now fun e w'' => e = .returned (.int .i64 K) ∧ ∃ q : Bel W, w'' = q.now from fun p => Calls.bel_of_same (CB.out p.now))
  clear CN CB
  have q0 : ∀ p : Bel W, p.now.cell? ⟨w1.heap.size, 0, none⟩ = some (.bool o') := fun p => p.cell hz2' p0
  have q1 : ∀ p : Bel W, p.now.cell? ⟨w1.heap.size, 1, none⟩ = some (.int .i64 s') := fun p => p.cell hz2' p1
  have q2 : ∀ p : Bel W, p.now.cell? ⟨w1.heap.size, 2, none⟩ = some (.bool i') := fun p => p.cell hz2' p2
  have q3 : ∀ p : Bel W, p.now.cell? ⟨w1.heap.size, 3, none⟩ = some (.int .i64 f') := fun p => p.cell hz2' p3
  clear p0 p1 p2 p3
  by_cases hN : N = 0
  · have HF := Lib.hid hN
    cases o'
    · cases i'
      · go_wp2_with fail
        refine wp_region_bel (by kernel_rfl) (by kernel_rfl) ?_
        repeat (
          refine WQ.step (fun KK hKK => ?_)
          go_simp
          first
            | (refine hKK _ ?_; clear hKK KK)
            | (apply Exists.intro; refine ⟨fun _ => ?_, hKK _ ?_⟩; (first | (go_at_call 22; exact CNq.out _) | (go_at_call 39; exact CBq.out _)); clear hKK KK))
        refine WQ.nil_ ?_
        rintro _ ⟨⟨wq, hq⟩, rfl⟩
        go_wp2
        go_ret
        refine ⟨ret_bool (by rw [HN.out, HG.out]; simp [HF.out]), hB'.trans (hq.mono (by have := hB'.size; omega))⟩
      · by_cases a1 : f' < T
        · have A1 := Lib.hid a1
          have hwr : IntKind.i64.wrap (T - f') = T - f' := by rw [IntKind.wrap_i64]; omega
          go_wp2_with fail
          refine wp_region_bel (by kernel_rfl) (by kernel_rfl) ?_
          repeat (
            refine WQ.step (fun KK hKK => ?_)
            go_simp
            first
              | (refine hKK _ ?_; clear hKK KK)
              | (apply Exists.intro; refine ⟨fun _ => ?_, hKK _ ?_⟩; (first | (go_at_call 22; exact CNq.out _) | (go_at_call 39; exact CBq.out _)); clear hKK KK))
          refine WQ.nil_ ?_
          rintro _ ⟨⟨wq, hq⟩, rfl⟩
          go_wp2
          go_ret
          refine ⟨ret_bool (by rw [HN.out, HG.out]; simp [HF.out, A1.out]), hB'.trans (hq.mono (by have := hB'.size; omega))⟩
        · have A1 := Lib.hid a1
          have a2 : decide (f' < T) = false := decide_eq_false a1
          have hwr : IntKind.i64.wrap (T - f') = T - f' := by rw [IntKind.wrap_i64]; omega
          go_wp2_with fail
          refine wp_region_bel (by kernel_rfl) (by kernel_rfl) ?_
          repeat (
            refine WQ.step (fun KK hKK => ?_)
            go_simp
            first
              | (refine hKK _ ?_; clear hKK KK)
              | (apply Exists.intro; refine ⟨fun _ => ?_, hKK _ ?_⟩; (first | (go_at_call 22; exact CNq.out _) | (go_at_call 39; exact CBq.out _)); clear hKK KK))
          refine WQ.nil_ ?_
          rintro _ ⟨⟨wq, hq⟩, rfl⟩
          go_wp2
          go_ret
          refine ⟨ret_bool (by rw [HN.out, HG.out]; simp [HF.out]; have := A1.out; omega), hB'.trans (hq.mono (by have := hB'.size; omega))⟩
    · go_wp2_with fail
      refine wp_region_bel (by kernel_rfl) (by kernel_rfl) ?_
      repeat (
        refine WQ.step (fun KK hKK => ?_)
        go_simp
        first
          | (refine hKK _ ?_; clear hKK KK)
          | (apply Exists.intro; refine ⟨fun _ => ?_, hKK _ ?_⟩; (first | (go_at_call 22; exact CNq.out _) | (go_at_call 39; exact CBq.out _)); clear hKK KK))
      refine WQ.nil_ ?_
      rintro _ ⟨⟨wq, hq⟩, rfl⟩
      go_wp2
      go_ret
      refine ⟨ret_bool (by rw [HN.out, HG.out]; simp [HF.out]), hB'.trans (hq.mono (by have := hB'.size; omega))⟩
  · have HF := Lib.hid hN
    go_wp2_with fail
    refine wp_region_bel (by kernel_rfl) (by kernel_rfl) ?_
    repeat (
      refine WQ.step (fun KK hKK => ?_)
      go_simp
      first
        | (refine hKK _ ?_; clear hKK KK)
        | (apply Exists.intro; refine ⟨fun _ => ?_, hKK _ ?_⟩; (first | (go_at_call 22; exact CNq.out _) | (go_at_call 39; exact CBq.out _)); clear hKK KK))
    refine WQ.nil_ ?_
    rintro _ ⟨⟨wq, hq⟩, rfl⟩
    go_wp2
    go_ret
    refine ⟨ret_bool (by rw [HN.out, HG.out]; simp [HF.out]), hB'.trans (hq.mono (by have := hB'.size; omega))⟩
end Go.Proofs.Ytcmhceilbampiaa
