/-
  THE PLAIN LAW OF A HOLD, MORE: what the statements say of 'stepH', 'now', 'gone'.
-/
import Derived.Test.YtcmhceilbampiaaHoldPlain
namespace Go.Proofs.Ytcmhceilbampiaa.HoldP
theorem s0_false (h : Hd) (t u : Int) : step0 h false t u = ⟨false, 0, h.hit, h.fired⟩ := rfl
theorem s0_kk {h : Hd} {t u : Int} (a : h.on = true ∧ h.since ≤ t) (b : u ≤ t - h.since) : step0 h true t u = ⟨true, h.since, true, t⟩ := by simp [step0, a, b]
theorem s0_kn {h : Hd} {t u : Int} (a : h.on = true ∧ h.since ≤ t) (b : ¬ u ≤ t - h.since) : step0 h true t u = ⟨true, h.since, h.hit, h.fired⟩ := by simp [step0, a, b]
theorem s0_nk {h : Hd} {t u : Int} (a : ¬ (h.on = true ∧ h.since ≤ t)) (b : u ≤ 0) : step0 h true t u = ⟨true, t, true, t⟩ := by simp only [step0, if_true, if_neg a]; rw [if_pos (by omega)]
theorem s0_nn {h : Hd} {t u : Int} (a : ¬ (h.on = true ∧ h.since ≤ t)) (b : ¬ u ≤ 0) : step0 h true t u = ⟨true, t, h.hit, h.fired⟩ := by simp only [step0, if_true, if_neg a]; rw [if_neg (by omega)]
/-- The five ways of a step. -/
theorem s0_ways (h : Hd) (c : Bool) (t u : Int) : (c = false ∧ step0 h c t u = ⟨false, 0, h.hit, h.fired⟩) ∨ (c = true ∧ (h.on = true ∧ h.since ≤ t) ∧ u ≤ t - h.since ∧ step0 h c t u = ⟨true, h.since, true, t⟩) ∨
    (c = true ∧ (h.on = true ∧ h.since ≤ t) ∧ ¬ u ≤ t - h.since ∧ step0 h c t u = ⟨true, h.since, h.hit, h.fired⟩) ∨ (c = true ∧ ¬ (h.on = true ∧ h.since ≤ t) ∧ u ≤ 0 ∧ step0 h c t u = ⟨true, t, true, t⟩) ∨
    (c = true ∧ ¬ (h.on = true ∧ h.since ≤ t) ∧ ¬ u ≤ 0 ∧ step0 h c t u = ⟨true, t, h.hit, h.fired⟩) := by
  cases c
  · exact .inl ⟨rfl, rfl⟩
  · by_cases a : h.on = true ∧ h.since ≤ t
    · by_cases b : u ≤ t - h.since
      · exact .inr (.inl ⟨rfl, a, b, s0_kk a b⟩)
      · exact .inr (.inr (.inl ⟨rfl, a, b, s0_kn a b⟩))
    · by_cases b : u ≤ 0
      · exact .inr (.inr (.inr (.inl ⟨rfl, a, b, s0_nk a b⟩)))
      · exact .inr (.inr (.inr (.inr ⟨rfl, a, b, s0_nn a b⟩)))
theorem step_on (h : Hd) (c : Bool) (t wt : Int) : (stepH h c t wt).on = c := by
  unfold stepH
  rcases s0_ways (cnt h) c (clT t) (clT wt) with ⟨rfl, e⟩ | ⟨rfl, -, -, e⟩ | ⟨rfl, -, -, e⟩ | ⟨rfl, -, -, e⟩ | ⟨rfl, -, -, e⟩ <;> rw [e]
theorem now0_vals (h : Hd) (t k : Int) : now0 h t k = 0 ∨ now0 h t k = 1 ∨ now0 h t k = 2 := by
  unfold now0
  split
  · exact .inr (.inr rfl)
  · split
    · exact .inr (.inl rfl)
    · exact .inl rfl
theorem now_vals (h : Hd) (t k : Int) : 0 ≤ now h t k ∧ now h t k ≤ 2 := by
  rcases now0_vals (cnt h) (clT t) (clT k) with e | e | e <;> (unfold now; omega)
theorem now_on {h : Hd} (s : saneH h = true) (o : h.on = true) (t k : Int) : now h t k ≠ 0 := by
  rw [now_of s]; unfold now0; rw [if_pos o]; split <;> omega
theorem now_off {h : Hd} (s : saneH h = true) (o : h.on = false) (t k : Int) : now h t k ≠ 1 := by
  rw [now_of s]; unfold now0; rw [o]; split
  · omega
  · simp
/-- LOOKED AT TWICE IS AS ONCE. -/
theorem step_twice (h : Hd) (c : Bool) (t wt : Int) : stepH (stepH h c t wt) c t wt = stepH h c t wt := by
  have hs := step_sane h c t wt
  have e : stepH (stepH h c t wt) c t wt = step0 (stepH h c t wt) c (clT t) (clT wt) := by
    show step0 (cnt (stepH h c t wt)) c _ _ = _
    rw [cnt_of hs]
  rw [e]
  show step0 (step0 (cnt h) c (clT t) (clT wt)) c (clT t) (clT wt) = step0 (cnt h) c (clT t) (clT wt)
  generalize cnt h = g
  generalize clT t = T
  generalize clT wt = U
  rcases s0_ways g c T U with ⟨rfl, e⟩ | ⟨rfl, a, b, e⟩ | ⟨rfl, a, b, e⟩ | ⟨rfl, a, b, e⟩ | ⟨rfl, a, b, e⟩ <;> rw [e]
  · rfl
  · exact s0_kk (h := ⟨true, g.since, true, T⟩) ⟨rfl, a.2⟩ b
  · exact s0_kn (h := ⟨true, g.since, g.hit, g.fired⟩) ⟨rfl, a.2⟩ b
  · exact s0_kk (h := ⟨true, T, true, T⟩) ⟨rfl, Int.le_refl _⟩ (by simp; omega)
  · exact s0_kn (h := ⟨true, T, g.hit, g.fired⟩) ⟨rfl, Int.le_refl _⟩ (by simp; omega)
end Go.Proofs.Ytcmhceilbampiaa.HoldP
