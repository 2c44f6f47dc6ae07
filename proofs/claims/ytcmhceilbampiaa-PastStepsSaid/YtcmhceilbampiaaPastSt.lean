/-
  STEP BY STEP IT IS THE SAME: the plain law.
-/
import Derived.Test.YtcmhceilbampiaaPastP
namespace Go.Proofs.Ytcmhceilbampiaa.PastP
open HoldP
set_option linter.unusedVariables false
/-- The hold behind m looks. -/
def stk (T : Nat → Int) (C : Nat → Bool) (wt : Int) : Nat → Hd
  | 0 => none_
  | m + 1 => stepH (stk T C wt m) (C m) (T m) wt
structure StInv (T : Nat → Int) (C : Nat → Bool) (w : Int) (m : Nat) (h : Hd) : Prop where
  sane : saneH h = true
  on : h.on = true ↔ 0 < m ∧ C (m - 1) = true
  since : h.on = true → h.since = T (beg C (m - 1))
  nohit : h.hit = false → ∀ b, b < m → ¬ long T C w b
  hit : h.hit = true → ∃ b, b < m ∧ long T C w b ∧ h.fired = T b ∧ ∀ b', b' < m → long T C w b' → b' ≤ b
theorem beg_step (C : Nat → Bool) (m : Nat) : beg C m = if 0 < m ∧ C (m - 1) = true then beg C (m - 1) else m := by
  cases m with
  | zero => rfl
  | succ m => simp [beg]
theorem stInv {n : Nat} {T : Nat → Int} (hS : SaneP n T) (C : Nat → Bool) (wt : Int) : ∀ m, m ≤ n → StInv T C (clT wt) m (stk T C wt m)
  | 0, _ => ⟨sane_none, by simp [stk, none_], by simp [stk, none_], fun _ b hb => absurd hb (by omega), by simp [stk, none_]⟩
  | m + 1, hm => by
    have I := stInv hS C wt m (by omega)
    have hbd := hS.bd (show m < n by omega)
    have hcl : clT (T m) = T m := clT_of _ ((isT_iff _).2 hbd)
    have hst : stk T C wt (m + 1) = step0 (stk T C wt m) (C m) (T m) (clT wt) := by
      show stepH _ _ _ _ = _
      unfold stepH
      rw [cnt_of I.sane, hcl]
    have hsane : saneH (stk T C wt (m + 1)) = true := step_sane _ _ _ _
    rw [hst] at hsane ⊢
    generalize stk T C wt m = h at I hsane ⊢
    clear hst
    have hb := beg_step C m
    unfold step0 at hsane ⊢
    cases hc : C m
    · simp only [hc, Bool.false_eq_true, if_false] at hsane ⊢
      refine ⟨hsane, by simp [hc], by simp, fun hh b hb' => ?_, fun hh => ?_⟩
      · rcases Nat.lt_or_ge b m with h1 | h1
        · exact I.nohit hh b h1
        · obtain rfl : b = m := by omega
          rintro ⟨h2, _⟩; rw [hc] at h2; cases h2
      · obtain ⟨b, h1, h2, h3, h4⟩ := I.hit hh
        refine ⟨b, by omega, h2, h3, fun b' h5 h6 => ?_⟩
        rcases Nat.lt_or_ge b' m with h7 | h7
        · exact h4 b' h7 h6
        · obtain rfl : b' = m := by omega
          rw [h6.1] at hc; cases hc
    · simp only [hc, if_true] at hsane ⊢
      have hs : (if h.on = true ∧ h.since ≤ T m then h.since else T m) = T (beg C m) := by
        by_cases ho : h.on = true
        · have h1 := I.on.1 ho
          have h2 := I.since ho
          rw [if_pos h1] at hb
          have h3 := hS.mono (show beg C (m - 1) ≤ m by have := beg_le C (m - 1); omega) (by omega)
          rw [if_pos ⟨ho, by omega⟩, h2, hb]
        · have h1 : ¬ (0 < m ∧ C (m - 1) = true) := fun h1 => ho (I.on.2 h1)
          rw [if_neg h1] at hb
          rw [if_neg (fun h2 => ho h2.1), hb]
      rw [hs] at hsane ⊢
      have hl : long T C (clT wt) m ↔ clT wt ≤ T m - T (beg C m) := ⟨fun h1 => h1.2, fun h1 => ⟨hc, h1⟩⟩
      by_cases hw : clT wt ≤ T m - T (beg C m)
      · rw [if_pos hw] at hsane ⊢
        refine ⟨hsane, by simp [hc], fun _ => by simp, by simp, fun _ => ⟨m, by omega, hl.2 hw, rfl, fun b' h1 _ => by omega⟩⟩
      · rw [if_neg hw] at hsane ⊢
        refine ⟨hsane, by simp [hc], fun _ => by simp, fun hh b hb' => ?_, fun hh => ?_⟩
        · rcases Nat.lt_or_ge b m with h1 | h1
          · exact I.nohit hh b h1
          · obtain rfl : b = m := by omega
            exact fun h2 => hw (hl.1 h2)
        · obtain ⟨b, h1, h2, h3, h4⟩ := I.hit hh
          refine ⟨b, by omega, h2, h3, fun b' h5 h6 => ?_⟩
          rcases Nat.lt_or_ge b' m with h7 | h7
          · exact h4 b' h7 h6
          · obtain rfl : b' = m := by omega
            exact absurd (hl.1 h6) hw
theorem now_stk {n : Nat} {T : Nat → Int} (hS : SaneP n T) (C : Nat → Bool) (wt k : Int) {m : Nat} (hm : m < n) : now (stk T C wt (m + 1)) (T m) k = atP T C (clT wt) (clT k) m := by
  have I := stInv hS C wt (m + 1) (by omega)
  have hbd := hS.bd hm
  have hcl : clT (T m) = T m := clT_of _ ((isT_iff _).2 hbd)
  rw [now_of I.sane, hcl]
  generalize stk T C wt (m + 1) = h at I
  generalize clT k = K
  have hon : h.on = C m := by
    have := I.on
    simp only [Nat.add_sub_cancel] at this
    cases h1 : h.on <;> cases h2 : C m <;> simp_all
  have hF : (h.hit && (h.fired == T m || keptB h.fired (T m) K)) = true ↔ Fires T C (clT wt) K m := by
    rw [Bool.and_eq_true, Bool.or_eq_true, beq_iff_eq]
    constructor
    · rintro ⟨hh, h1⟩
      obtain ⟨b, h2, h3, h4, h5⟩ := I.hit hh
      refine ⟨b, by omega, h3, ?_⟩
      rcases h1 with h1 | h1
      · left
        rcases Nat.lt_or_ge b m with h6 | h6
        · have := hS.lt h6 hm; omega
        · omega
      · right
        simp only [keptB, Bool.and_eq_true, decide_eq_true_eq] at h1
        exact ⟨h1.1.1, by omega⟩
    · rintro ⟨b, h1, h2, h3⟩
      have hh : h.hit = true := by
        cases hh : h.hit
        · exact absurd h2 (I.nohit hh b (by omega))
        · rfl
      refine ⟨hh, ?_⟩
      obtain ⟨c, g2, g3, g4, g5⟩ := I.hit hh
      have hcb := g5 b (by omega) h2
      rcases Nat.lt_or_ge c m with h6 | h6
      · right
        have e1 := hS.lt h6 hm
        have e2 := hS.mono hcb (by omega)
        simp only [keptB, Bool.and_eq_true, decide_eq_true_eq]
        rcases h3 with h3 | ⟨h3, h4⟩
        · omega
        · exact ⟨⟨h3, by omega⟩, by omega⟩
      · left
        obtain rfl : c = m := by omega
        exact g4
  unfold now0
  by_cases hf : Fires T C (clT wt) K m
  · rw [if_pos (hF.2 hf), atP_yes hf]
  · rw [if_neg (fun h1 => hf (hF.1 h1)), atP_no hf, hon]
end Go.Proofs.Ytcmhceilbampiaa.PastP
