/-
  THE PLAIN LAW OF A HOLD: HoldPlain, HoldGone, HoldMore.
-/
import Derived.Test.YtcmhceilbampiaaHoldFacts
namespace Go.Proofs.Ytcmhceilbampiaa.HoldP
theorem now0_two (h : Hd) (t k : Int) : now0 h t k = 2 ↔ h.hit = true ∧ (h.fired = t ∨ (0 < k ∧ h.fired < t ∧ t - h.fired < k)) := by
  unfold now0 keptB
  constructor
  · intro e
    split at e
    · rename_i hh; simp at hh; exact ⟨hh.1, by omega⟩
    · split at e <;> omega
  · rintro ⟨a, b⟩
    rw [if_pos]
    simp [a]; omega
theorem now0_rest (h : Hd) (t k : Int) (hn : ¬ (h.hit = true ∧ (h.fired = t ∨ (0 < k ∧ h.fired < t ∧ t - h.fired < k)))) : now0 h t k = if h.on = true then 1 else 0 := by
  have : ¬ now0 h t k = 2 := fun e => hn ((now0_two h t k).1 e)
  unfold now0 at this ⊢
  split
  · rename_i hh; rw [if_pos hh] at this; omega
  · rfl
theorem clT_id {t : Int} (h0 : 0 ≤ t) (h1 : t ≤ 9007199254740992) : clT t = t := clT_of t ((isT_iff t).2 ⟨h0, h1⟩)
theorem plain_true {h : Hd} (s : saneH h = true) {t : Int} (h0 : 0 ≤ t) (h1 : t ≤ 9007199254740992) (hs : h.since ≤ t) : now (stepH h true t 0) t 0 = 2 := by
  rw [now_of (step_sane h true t 0)]
  unfold stepH
  rw [cnt_of s, clT_id h0 h1, show clT 0 = 0 from rfl, now0_two]
  by_cases a : h.on = true ∧ h.since ≤ t
  · rw [s0_kk a (by omega)]; exact ⟨rfl, .inl rfl⟩
  · rw [s0_nk a (by omega)]; exact ⟨rfl, .inl rfl⟩
theorem plain_false {h : Hd} (s : saneH h = true) {t : Int} (h0 : 0 ≤ t) (h1 : t ≤ 9007199254740992) (hf : h.fired < t) : now (stepH h false t 0) t 0 = 0 := by
  rw [now_of (step_sane h false t 0)]
  unfold stepH
  rw [cnt_of s, clT_id h0 h1, show clT 0 = 0 from rfl, s0_false, now0_rest]
  · rfl
  · simp only; omega
theorem plain_first (c : Bool) {t : Int} (h0 : 0 ≤ t) (h1 : t ≤ 9007199254740992) : now (stepH ⟨false, 0, false, 0⟩ c t 1) t 0 = if c = true then 1 else 0 := by
  rw [now_of (step_sane _ c t 1)]
  have e : stepH ⟨false, 0, false, 0⟩ c t 1 = step0 ⟨false, 0, false, 0⟩ c (clT t) 1 := rfl
  rw [e, clT_id h0 h1]
  cases c
  · rw [s0_false, now0_rest] <;> simp
  · rw [s0_nn (by simp) (by omega), now0_rest] <;> simp
/-- A LONGER WAIT FIRES NO MORE. -/
theorem more_wait (h : Hd) (c : Bool) (t k : Int) {u u' : Int} (hu : u ≤ u') (hm : now (stepH h c t u') t k = 2) : now (stepH h c t u) t k = 2 := by
  have hcl : clT u ≤ clT u' := by unfold clT; omega
  rw [now_of (step_sane ..)] at hm ⊢
  unfold stepH at hm ⊢
  generalize clT t = T at *
  generalize clT u = U at *
  generalize clT u' = U' at *
  generalize cnt h = g at *
  rcases s0_ways g c T U with ⟨rfl, e⟩ | ⟨rfl, a, b, e⟩ | ⟨rfl, a, b, e⟩ | ⟨rfl, a, b, e⟩ | ⟨rfl, a, b, e⟩
  · exact hm
  · rw [e, now0_two]; exact ⟨rfl, .inl rfl⟩
  · rw [e]; rw [s0_kn a (by omega)] at hm; exact hm
  · rw [e, now0_two]; exact ⟨rfl, .inl rfl⟩
  · rw [e]; rw [s0_nn a (by omega)] at hm; exact hm
/-- A LONGER KEEP FIRES NO LESS. -/
theorem more_keep (h : Hd) (t : Int) {k k' : Int} (hk : k ≤ k') (hm : now h t k = 2) : now h t k' = 2 := by
  have hcl : clT k ≤ clT k' := by unfold clT; omega
  unfold now at hm ⊢
  rw [now0_two] at hm ⊢
  refine ⟨hm.1, ?_⟩
  have := hm.2
  omega
/-- WHAT IS GONE: -/
theorem gone0_iff (h : Hd) (t k : Int) : gone0 h t k = true ↔ now0 h t k = 0 ∧ h.on = false ∧ (h.hit = true → h.fired < t ∧ k ≤ t - h.fired) := by
  unfold gone0
  cases h.hit <;> simp [and_assoc]
theorem gone_stays {h : Hd} {t t' k : Int} (h0 : 0 ≤ t) (h1 : t ≤ t') (h2 : t' ≤ 9007199254740992) (hg : gone h t k = true) (u : Int) :
    now (stepH h false t' u) t' k = 0 ∧ gone (stepH h false t' u) t' k = true := by
  have hs := step_sane h false t' u
  unfold gone at hg ⊢
  rw [now_of hs, cnt_of hs]
  rw [gone0_iff] at hg
  have e : stepH h false t' u = ⟨false, 0, (cnt h).hit, (cnt h).fired⟩ := rfl
  rw [e, clT_id (show 0 ≤ t' by omega) h2]
  rw [clT_id h0 (by omega)] at hg
  have hn : now0 ⟨false, 0, (cnt h).hit, (cnt h).fired⟩ t' (clT k) = 0 := by
    rw [now0_rest]
    · rfl
    · simp only; rintro ⟨a, b⟩; have := hg.2.2 a; omega
  refine ⟨hn, ?_⟩
  rw [gone0_iff]
  refine ⟨hn, rfl, fun a => ?_⟩
  have := hg.2.2 a
  simp only; omega
theorem gone_again {h : Hd} {t t' k : Int} (h0 : 0 ≤ t) (h1 : t < t') (h2 : t ≤ 4503599627370496) (hg : gone h t k = true) (u : Int) :
    now (stepH h true t' u) t' k = now (stepH ⟨false, 0, false, 0⟩ true t' u) t' k ∧ (stepH h true t' u).on = (stepH ⟨false, 0, false, 0⟩ true t' u).on ∧ (stepH h true t' u).since = (stepH ⟨false, 0, false, 0⟩ true t' u).since ∧
    ((stepH ⟨false, 0, false, 0⟩ true t' u).hit = true → stepH h true t' u = stepH ⟨false, 0, false, 0⟩ true t' u) := by
  unfold gone at hg
  rw [gone0_iff, clT_id h0 (by omega)] at hg
  rw [now_of (step_sane ..), now_of (step_sane ..)]
  have hT : t < clT t' := by unfold clT; omega
  have ez : stepH ⟨false, 0, false, 0⟩ true t' u = step0 ⟨false, 0, false, 0⟩ true (clT t') (clT u) := rfl
  have ey : stepH h true t' u = step0 (cnt h) true (clT t') (clT u) := rfl
  rw [ez, ey]
  generalize cnt h = g at *
  generalize clT t' = T at *
  generalize clT u = U at *
  generalize clT k = K at *
  have a1 : ¬ (g.on = true ∧ g.since ≤ T) := by rw [hg.2.1]; simp
  have a2 : ¬ ((⟨false, 0, false, 0⟩ : Hd).on = true ∧ (⟨false, 0, false, 0⟩ : Hd).since ≤ T) := by simp
  by_cases b : U ≤ 0
  · rw [s0_nk a1 b, s0_nk a2 b]; simp
  · rw [s0_nn a1 b, s0_nn a2 b]
    refine ⟨?_, rfl, rfl, fun e => by cases e⟩
    rw [now0_rest, now0_rest]
    · simp
    · simp only; rintro ⟨x, y⟩; have := hg.2.2 x; omega
end Go.Proofs.Ytcmhceilbampiaa.HoldP
