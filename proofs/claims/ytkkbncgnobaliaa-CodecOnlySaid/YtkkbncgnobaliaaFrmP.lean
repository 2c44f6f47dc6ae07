/-
  RECORDS ONE BEHIND THE OTHER: the plain law; no program in sight.
-/
import Derived.Test.YtkkbncgnobaliaaFrmR
import Derived.Test.YtkkbncgnobaliaaDskP
namespace Go.Proofs.Ytkkbncgnobaliaa
open CodP
open CrcP
set_option linter.unusedVariables false
/-- Records of lists of octets, one behind the other. -/
def recs (ps : List (List UInt8)) : List UInt8 := ps.foldl putF []
theorem putF_app (b p : List UInt8) : putF b p = b ++ putF [] p := by unfold putF; split <;> simp
theorem foldl_putF : ∀ (ps : List (List UInt8)) (b : List UInt8), ps.foldl putF b = b ++ ps.foldl putF []
  | [], b => by simp
  | p :: ps, b => by
    rw [List.foldl_cons, List.foldl_cons, foldl_putF ps (putF b p), foldl_putF ps (putF [] p), putF_app b p, List.append_assoc]
theorem recs_cons (p : List UInt8) (ps : List (List UInt8)) : recs (p :: ps) = putF [] p ++ recs ps := by
  unfold recs; rw [List.foldl_cons, foldl_putF]
theorem recs_nil : recs [] = [] := rfl
theorem recs_snoc (ps : List (List UInt8)) (p : List UInt8) : recs (ps ++ [p]) = putF (recs ps) p := by unfold recs; rw [List.foldl_append]; rfl
theorem putF_yes {p : List UInt8} (h : p.length ≤ 65536) : putF [] p = recd p := by unfold putF; rw [if_pos h]; rfl
theorem recd_le {p : List UInt8} (h : p.length ≤ 65536) : (recd p).length ≤ p.length + 7 := by
  have := enc_len3 h
  unfold recd; simp only [List.length_append, le4_len]; omega
theorem recd_pos (p : List UInt8) : 0 < (recd p).length := by
  unfold recd; simp only [List.length_append, le4_len]; omega
theorem putF_len (b p : List UInt8) : (putF b p).length ≤ b.length + 65543 := by
  rw [putF_app, List.length_append]
  by_cases h : p.length ≤ 65536
  · rw [putF_yes h]; have := recd_le h; omega
  · unfold putF; rw [if_neg h]; simp
theorem recs_len : ∀ (ps : List (List UInt8)), (recs ps).length ≤ ps.length * 65543
  | [] => by simp [recs_nil]
  | p :: ps => by
    rw [recs_cons, List.length_append, List.length_cons]
    have := recs_len ps
    have := putF_len [] p
    simp at this; omega
theorem recs_small : ∀ (ps : List (List UInt8)), (∀ p ∈ ps, p.length ≤ 200) → (recs ps).length ≤ ps.length * 207
  | [], _ => by simp [recs_nil]
  | p :: ps, h => by
    rw [recs_cons, List.length_append, List.length_cons]
    have := recs_small ps (fun q hq => h q (List.mem_cons_of_mem _ hq))
    have hp := h p List.mem_cons_self
    rw [putF_yes (by omega)]
    have := recd_le (p := p) (by omega)
    omega
/-- WHAT IS GOT WAS PUT. -/
theorem allF_recs : ∀ (k : Nat) (l : List UInt8), l.length ≤ k → recs (allF l).1 ++ (allF l).2.1 = l ∧ ((allF l).2.2 = 0 ↔ (allF l).2.1 = [])
  | 0, l, h => by
    have : l = [] := List.eq_nil_of_length_eq_zero (by omega)
    subst this; rw [allF_nil]; simp [recs_nil]
  | k + 1, l, h => by
    by_cases h0 : l = []
    · subst h0; rw [allF_nil]; simp [recs_nil]
    · cases hg : getF l with
      | error c => rw [allF_err h0 hg]; simp [recs_nil, getF_err hg, h0]
      | ok pr =>
        obtain ⟨p, r⟩ := pr
        have hs := getF_short hg
        obtain ⟨e, hp⟩ := getF_ok hg
        rw [allF_ok hg]
        obtain ⟨i1, i2⟩ := allF_recs k r (by omega)
        refine ⟨?_, i2⟩
        simp only
        rw [recs_cons, putF_yes hp, List.append_assoc, i1, ← e]
theorem allF_small : ∀ (k : Nat) (l : List UInt8), l.length ≤ k → ∀ ps, ps = (allF l).1 → (∀ p ∈ ps, p.length ≤ 65536) ∧ ps.length ≤ (recs ps).length
  | 0, l, h, ps, e => by
    have : l = [] := List.eq_nil_of_length_eq_zero (by omega)
    subst this; rw [allF_nil] at e; subst e; simp
  | k + 1, l, h, ps, e => by
    by_cases h0 : l = []
    · subst h0; rw [allF_nil] at e; subst e; simp
    · cases hg : getF l with
      | error c => rw [allF_err h0 hg] at e; subst e; simp
      | ok pr =>
        obtain ⟨p, r⟩ := pr
        have hs := getF_short hg
        obtain ⟨-, hp⟩ := getF_ok hg
        rw [allF_ok hg] at e
        obtain ⟨i1, i2⟩ := allF_small k r (by omega) _ rfl
        subst e
        refine ⟨fun q hq => ?_, ?_⟩
        · rcases List.mem_cons.1 hq with rfl | hq
          · exact hp
          · exact i1 q hq
        · rw [recs_cons, putF_yes hp, List.length_append, List.length_cons]
          have := recd_pos p
          omega
theorem getF_take {p t : List UInt8} (hp : p.length ≤ 65536) (k : Nat) : getF ((recd p ++ t).take k) = if (recd p).length ≤ k then .ok (p, t.take (k - (recd p).length)) else .error 3 := by
  by_cases h : (recd p).length ≤ k
  · rw [if_pos h, List.take_append, List.take_of_length_le h, getF_recd p _ hp]
  · rw [if_neg h, List.take_append_of_le_length (by omega)]
    exact getF_cut p hp k (by omega)
/-- How many are whole among so many octets. -/
def wholeN : List (List UInt8) → Nat → Nat
  | [], _ => 0
  | p :: ps, k => if (recd p).length ≤ k then wholeN ps (k - (recd p).length) + 1 else 0
/-- OF WHAT IS CUT SHORT ALL THAT IS WHOLE IS TOLD. -/
theorem allF_cut : ∀ (ps : List (List UInt8)) (k : Nat), (∀ p ∈ ps, p.length ≤ 65536) → k ≤ (recs ps).length →
    (allF ((recs ps).take k)).1 = ps.take (wholeN ps k) ∧ (allF ((recs ps).take k)).2.1.length = k - (recs (ps.take (wholeN ps k))).length ∧ (recs (ps.take (wholeN ps k))).length ≤ k ∧ wholeN ps k ≤ ps.length ∧
      ((allF ((recs ps).take k)).2.2 = if (recs (ps.take (wholeN ps k))).length = k then 0 else 3)
  | [], k, h, hk => by
    have : k = 0 := by simpa [recs_nil] using hk
    subst this
    simp [recs_nil, allF_nil, wholeN]
  | p :: ps, k, h, hk => by
    have hp := h p List.mem_cons_self
    have hps : ∀ q ∈ ps, q.length ≤ 65536 := fun q hq => h q (List.mem_cons_of_mem _ hq)
    rw [recs_cons, putF_yes hp] at hk ⊢
    have hg := getF_take (t := recs ps) hp k
    by_cases hc : (recd p).length ≤ k
    · rw [if_pos hc] at hg
      rw [allF_ok hg]
      rw [List.length_append] at hk
      obtain ⟨i1, i2, i3, i4, i5⟩ := allF_cut ps (k - (recd p).length) hps (by omega)
      have hw : wholeN (p :: ps) k = wholeN ps (k - (recd p).length) + 1 := by rw [wholeN, if_pos hc]
      rw [hw, List.take_succ_cons, recs_cons, putF_yes hp, List.length_append]
      refine ⟨by rw [i1], by simp only; rw [i2]; omega, by omega, by simp; omega, ?_⟩
      simp only
      rw [i5]
      by_cases hq : (recs (List.take (wholeN ps (k - (recd p).length)) ps)).length = k - (recd p).length
      · rw [if_pos hq, if_pos (by omega)]
      · rw [if_neg hq, if_neg (by omega)]
    · rw [if_neg hc] at hg
      have hw : wholeN (p :: ps) k = 0 := by rw [wholeN, if_neg hc]
      rw [hw, List.take_zero, recs_nil]
      by_cases h0 : k = 0
      · subst h0; simp [allF_nil]
      · have hne : (recd p ++ recs ps).take k ≠ [] := by
          intro e
          have := congrArg List.length e
          rw [List.length_take, List.length_append, List.length_nil] at this
          have := recd_pos p
          omega
        rw [allF_err hne hg]
        refine ⟨rfl, ?_, by simp, by simp, ?_⟩
        · simp only; rw [List.length_take]; simp; omega
        · rw [if_neg (by simp; omega)]
/-- It is the greatest number of them that fit. -/
theorem wholeN_next : ∀ (ps : List (List UInt8)) (k : Nat), (∀ p ∈ ps, p.length ≤ 65536) → wholeN ps k < ps.length → k < (recs (ps.take (wholeN ps k + 1))).length
  | [], k, h, hk => by simp [wholeN] at hk
  | p :: ps, k, h, hk => by
    have hp := h p List.mem_cons_self
    by_cases hc : (recd p).length ≤ k
    · have hw : wholeN (p :: ps) k = wholeN ps (k - (recd p).length) + 1 := by rw [wholeN, if_pos hc]
      rw [hw] at hk ⊢
      have := wholeN_next ps (k - (recd p).length) (fun q hq => h q (List.mem_cons_of_mem _ hq)) (by simp at hk; omega)
      rw [List.take_succ_cons, recs_cons, putF_yes hp, List.length_append]; omega
    · have hw : wholeN (p :: ps) k = 0 := by rw [wholeN, if_neg hc]
      rw [hw, List.take_succ_cons, recs_cons, putF_yes hp, List.length_append]; omega
theorem recs_mono (ps : List (List UInt8)) : ∀ i j, i ≤ j → (recs (ps.take i)).length ≤ (recs (ps.take j)).length := by
  intro i j h
  have : ps.take j = ps.take i ++ (ps.drop i).take (j - i) := by
    rw [← List.take_append_drop i (ps.take j), List.take_take, Nat.min_eq_left h, List.drop_take]
  rw [this]
  unfold recs
  rw [List.foldl_append, foldl_putF (List.take (j - i) (List.drop i ps)), List.length_append]; omega
/-- ONE BEHIND THE OTHER. -/
theorem allF_many : ∀ (ps : List (List UInt8)), (∀ p ∈ ps, p.length ≤ 65536) → allF (recs ps) = (ps, [], 0)
  | [], _ => by rw [recs_nil, allF_nil]
  | p :: ps, h => by
    have hp := h p List.mem_cons_self
    have i := allF_many ps (fun q hq => h q (List.mem_cons_of_mem _ hq))
    rw [recs_cons, putF_yes hp, allF_ok (getF_recd p _ hp), i]
end Go.Proofs.Ytkkbncgnobaliaa
