/-
  THE REFERENCE's WALKS (package watchtowerref15): 'Time', 'Sane', 'As', 'Bring', 'Now', by the same contracts.
-/
import Derived.Test.YtcmhceilbampiaaHold2
namespace Go.Proofs.Ytcmhceilbampiaa
open Go.RowKit
open HoldP
set_option maxRecDepth 100000 in
set_option maxHeartbeats 400000 in
theorem rtime_any (t : Int) (w : World) : Calls Try.prog 41 #[.int .i64 t] w fun e w' => e = .returned (.bool (isT t)) ∧ w = w' := by
  by_cases h1 : 0 ≤ t
  · by_cases h2 : t ≤ 9007199254740992
    · go_enter Try.func41, Try.ntmps41
      go_wp2
      go_ret
      exact ⟨ret_bool (by simp [isT, h1, h2]), rfl⟩
    · go_enter Try.func41, Try.ntmps41
      go_wp2
      go_ret
      exact ⟨ret_bool (by simp [isT, h1]; omega), rfl⟩
  · go_enter Try.func41, Try.ntmps41
    go_wp2
    go_ret
    exact ⟨ret_bool (by simp [isT]; omega), rfl⟩
set_option maxRecDepth 100000 in
set_option maxHeartbeats 800000 in
theorem rsane_any (o : Bool) (s : Int) (i : Bool) (f : Int) (w : World) : Calls Try.prog 20 #[.agg #[.bool o, .int .i64 s, .bool i, .int .i64 f]] w fun e w' => e = .returned (.bool (saneH ⟨o, s, i, f⟩)) ∧ Below w.heap.size w w' := by
  have HS := Lib.hid (show saneH ⟨o, s, i, f⟩ = (isT s && isT f && (o || s == 0) && (i || f == 0)) from rfl)
  cases h1 : isT s
  · go_enter Try.func20, Try.ntmps20
    go_wp2_with fail
    refine (rtime_any _ _).mono ?_
    rintro e w' ⟨rfl, rfl⟩
    go_wp2
    go_ret
    exact ⟨ret_bool (by rw [HS.out, h1]; rfl), (Below.refl _ _).alloc (Nat.le_refl _) _⟩
  · cases h2 : isT f
    · go_enter Try.func20, Try.ntmps20
      go_wp2_with fail
      refine (rtime_any _ _).mono ?_
      rintro e w' ⟨rfl, rfl⟩
      go_wp2_with fail
      refine (rtime_any _ _).mono ?_
      rintro e w' ⟨rfl, rfl⟩
      go_wp2
      go_ret
      exact ⟨ret_bool (by rw [HS.out, h1, h2]; rfl), (Below.refl _ _).alloc (Nat.le_refl _) _⟩
    · cases o <;> cases i
      all_goals
        cases e1 : (s == 0) <;> cases e2 : (f == 0)
      all_goals
        go_enter Try.func20, Try.ntmps20
        go_wp2_with fail
        refine (rtime_any _ _).mono ?_
        rintro e w' ⟨rfl, rfl⟩
        go_wp2_with fail
        refine (rtime_any _ _).mono ?_
        rintro e w' ⟨rfl, rfl⟩
        go_wp2
        go_ret
        exact ⟨ret_bool (by rw [HS.out, h1, h2]; simp_all), (Below.refl _ _).alloc (Nat.le_refl _) _⟩
set_option maxRecDepth 100000 in
set_option maxHeartbeats 800000 in
theorem ras_any (o : Bool) (s : Int) (i : Bool) (f : Int) (w : World) : Calls Try.prog 38 #[.agg #[.bool o, .int .i64 s, .bool i, .int .i64 f]] w fun e w' => e = .returned (.agg (hv (cnt ⟨o, s, i, f⟩))) ∧ Below w.heap.size w w' := by
  have HC := Lib.hid (show cnt ⟨o, s, i, f⟩ = if saneH ⟨o, s, i, f⟩ = true then ⟨o, s, i, f⟩ else none_ from rfl)
  cases hsn : saneH ⟨o, s, i, f⟩
  · have HS := Lib.hid hsn
    go_enter Try.func38, Try.ntmps38
    go_wp2_with fail
    refine (rsane_any o s i f _).mono ?_
    rintro e w1 ⟨rfl, hb⟩
    obtain ⟨hc, hf⟩ := bcell hb
    have hz : w.heap.size + 1 < w1.heap.size := by have := hb.size; simp at this; omega
    go_wp2
    refine bodyPost_ret (v := .agg #[.bool false, .int .i64 0, .bool false, .int .i64 0]) (by simp [results, Try.results38, go_sem, hc]) rfl ⟨by rw [HC.out, HS.out]; rfl, ?_⟩
    exact ((((((Below.refl _ _).alloc (Nat.le_refl _) _).alloc (by simp) _).trans (hb.mono (by simp; omega))).setCell (by simp) _).setCell (by simp) _ |>.setCell (by simp) _).setCell (by simp) _
  · have HS := Lib.hid hsn
    go_enter Try.func38, Try.ntmps38
    go_wp2_with fail
    refine (rsane_any o s i f _).mono ?_
    rintro e w1 ⟨rfl, hb⟩
    obtain ⟨hc, hf⟩ := bcell hb
    have hz : w.heap.size + 1 < w1.heap.size := by have := hb.size; simp at this; omega
    go_wp2
    refine bodyPost_ret (v := .agg #[.bool o, .int .i64 s, .bool i, .int .i64 f]) (by simp [results, Try.results38, go_sem, hc]) rfl ⟨by rw [HC.out, HS.out]; rfl, ?_⟩
    exact ((((((Below.refl _ _).alloc (Nat.le_refl _) _).alloc (by simp) _).trans (hb.mono (by simp; omega))).setCell (by simp) _).setCell (by simp) _ |>.setCell (by simp) _).setCell (by simp) _

set_option maxRecDepth 100000 in
set_option maxHeartbeats 400000 in
theorem rbring_any (t : Int) (w : World) : Calls Try.prog 39 #[.int .i64 t] w fun e w' => e = .returned (.int .i64 (clT t)) ∧ w = w' := by
  obtain ⟨m1, m2, hmax, hmin, hm⟩ := clamp_runs t
  have HM := Lib.hid hm; clear hm
  go_enter Try.func39, Try.ntmps39
  go_wp2
  go_ret
  exact ⟨ret_int (by rw [HM.out]), rfl⟩
set_option maxRecDepth 100000 in
set_option maxHeartbeats 1600000 in
theorem rnow_any (o : Bool) (s : Int) (i : Bool) (f : Int) (t k : Int) (w : World) : Calls Try.prog 22 #[.agg #[.bool o, .int .i64 s, .bool i, .int .i64 f], .int .i64 t, .int .i64 k] w fun e w' => e = .returned (.int .i64 (now ⟨o, s, i, f⟩ t k)) ∧ Below w.heap.size w w' := by
  have HN := Lib.hid (show now ⟨o, s, i, f⟩ t k = now0 (cnt ⟨o, s, i, f⟩) (clT t) (clT k) from rfl)
  have hsn := sane_bd (sane_cnt ⟨o, s, i, f⟩)
  go_enter Try.func22, Try.ntmps22
  go_wp2_with fail
  refine (ras_any o s i f _).mono ?_
  rintro e w1 ⟨rfl, hb1⟩
  generalize cnt ⟨o, s, i, f⟩ = h at HN hsn ⊢
  obtain ⟨o', s', i', f'⟩ := h
  simp only at hsn
  simp only [hv]
  have hB := (((Below.refl _ _).alloc (Nat.le_refl _) _).trans (hb1.mono (by simp))).alloc (by have := hb1.size; simp at this; omega) (.cells #[.bool o', .int .i64 s', .bool i', .int .i64 f'] 23)
  have X : Blk (w1.alloc (.cells #[.bool o', .int .i64 s', .bool i', .int .i64 f'] 23)) w1.heap.size 23 #[.bool o', .int .i64 s', .bool i', .int .i64 f'] := Blk.new _ _ _
  go_wp2_with fail
  generalize w1.alloc (.cells #[.bool o', .int .i64 s', .bool i', .int .i64 f'] 23) = W at hB X ⊢
  refine (rbring_any t _).mono ?_
  rintro e w2 ⟨rfl, rfl⟩
  go_wp2_with fail
  refine (rbring_any k _).mono ?_
  rintro e w2 ⟨rfl, rfl⟩
  have hT := cl_bd t
  have hK := cl_bd k
  generalize clT t = T at HN hT ⊢
  generalize clT k = K at HN hK ⊢
  have q0 : W.cell? ⟨w1.heap.size, 0, none⟩ = some (.bool o') := X.cell 0
  have q2 : W.cell? ⟨w1.heap.size, 2, none⟩ = some (.bool i') := X.cell 2
  have q3 : W.cell? ⟨w1.heap.size, 3, none⟩ = some (.int .i64 f') := X.cell 3
  clear X hb1
  rcases Int.lt_trichotomy f' T with a2 | a2 | a2
  · have b : (f' == T) = false := by simp; omega
    cases i' <;> cases o'
    all_goals
      by_cases a1 : 0 < K <;> by_cases a3 : T - f' < K
    all_goals
      first
        | (exfalso; omega)
        | (go_wp2; go_ret; refine ⟨ret_int (by rw [HN.out]; simp [now0, keptB, a1, a2, a3, b] <;> omega), hB⟩)
  · subst a2
    cases i' <;> cases o'
    all_goals
      go_wp2
      go_ret
      refine ⟨ret_int (by rw [HN.out]; simp [now0]), hB⟩
  · have b : (f' == T) = false := by simp; omega
    have a5 : ¬ f' < T := by omega
    cases i' <;> cases o'
    all_goals
      by_cases a1 : 0 < K
    all_goals
      go_wp2
      go_ret
      refine ⟨ret_int (by rw [HN.out]; simp [now0, keptB, b] <;> (intros; omega)), hB⟩
end Go.Proofs.Ytcmhceilbampiaa
