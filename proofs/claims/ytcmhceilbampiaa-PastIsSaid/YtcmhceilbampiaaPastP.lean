/-
  THE PLAIN LAW OF THE PAST: looks by place (T: when, C: does it hold), their runs, and what the alert is at each. No program in sight.
-/
import Derived.Test.YtcmhceilbampiaaHoldPlain
namespace Go.Proofs.Ytcmhceilbampiaa.PastP
open HoldP
set_option linter.unusedVariables false
/-- Are n places looks? -/
def SaneP (n : Nat) (T : Nat → Int) : Prop := n ≤ 200 ∧ ∀ i, i < n → 0 ≤ T i ∧ T i ≤ 9007199254740992 ∧ (0 < i → T (i - 1) < T i)
open Classical in
noncomputable def saneB (n : Nat) (T : Nat → Int) : Bool := decide (SaneP n T)
theorem saneB_iff {n : Nat} {T : Nat → Int} : saneB n T = true ↔ SaneP n T := by simp [saneB]
theorem saneB_no {n : Nat} {T : Nat → Int} : saneB n T = false ↔ ¬ SaneP n T := by simp [saneB]
noncomputable def cntN (n : Nat) (T : Nat → Int) : Nat := if saneB n T = true then n else 0

theorem SaneP.le {n m : Nat} {T : Nat → Int} (h : SaneP n T) (hm : m ≤ n) : SaneP m T := ⟨by have := h.1; omega, fun i hi => h.2 i (by omega)⟩
theorem SaneP.up {n : Nat} {T : Nat → Int} (h : SaneP n T) : ∀ d i, i + d < n → T i ≤ T (i + d)
  | 0, i, _ => by simp
  | d + 1, i, hi => by
    have a := h.up d i (by omega)
    have b := (h.2 (i + d + 1) (by omega)).2.2 (by omega)
    simp only [Nat.add_sub_cancel] at b
    rw [← Nat.add_assoc]; omega
theorem SaneP.mono {n : Nat} {T : Nat → Int} (h : SaneP n T) {i j : Nat} (hij : i ≤ j) (hj : j < n) : T i ≤ T j := by
  have := h.up (j - i) i (by omega)
  rwa [show i + (j - i) = j by omega] at this
theorem SaneP.lt {n : Nat} {T : Nat → Int} (h : SaneP n T) {i j : Nat} (hij : i < j) (hj : j < n) : T i < T j := by
  have a := h.mono (show i ≤ j - 1 by omega) (by omega)
  have b := (h.2 j hj).2.2 (by omega)
  omega
theorem SaneP.bd {n : Nat} {T : Nat → Int} (h : SaneP n T) {i : Nat} (hi : i < n) : 0 ≤ T i ∧ T i ≤ 9007199254740992 := ⟨(h.2 i hi).1, (h.2 i hi).2.1⟩

/-- Where the run that place b stands in begins. -/
def beg (C : Nat → Bool) : Nat → Nat
  | 0 => 0
  | b + 1 => if C b = true then beg C b else b + 1
theorem beg_le (C : Nat → Bool) : ∀ b, beg C b ≤ b
  | 0 => Nat.le_refl _
  | b + 1 => by unfold beg; split; · have := beg_le C b; omega
                · exact Nat.le_refl _
theorem beg_all (C : Nat → Bool) : ∀ b j, beg C b ≤ j → j < b → C j = true
  | 0, j, _, h => by omega
  | b + 1, j, h1, h2 => by
    unfold beg at h1
    split at h1
    · rename_i hc
      rcases Nat.lt_or_ge j b with h | h
      · exact beg_all C b j h1 h
      · rw [show j = b by omega]; exact hc
    · omega
theorem beg_of (C : Nat → Bool) (s : Nat) (hs : s = 0 ∨ C (s - 1) = false) : ∀ b, s ≤ b → (∀ j, s ≤ j → j < b → C j = true) → beg C b = s
  | 0, h, _ => by simp [beg]; omega
  | b + 1, h, ha => by
    unfold beg
    rcases Nat.eq_or_lt_of_le h with e | e
    · subst e
      rw [if_neg]
      rcases hs with hs | hs
      · omega
      · simpa using hs
    · rw [if_pos (ha b (by omega) (by omega))]
      exact beg_of C s hs b (by omega) (fun j h1 h2 => ha j h1 (by omega))

theorem beg_edge (C : Nat → Bool) : ∀ b, beg C b = 0 ∨ C (beg C b - 1) = false
  | 0 => .inl rfl
  | b + 1 => by
    unfold beg; split
    · exact beg_edge C b
    · right; rename_i hc; simpa using hc
/-- True, and has been for as long as is waited. -/
def long (T : Nat → Int) (C : Nat → Bool) (w : Int) (b : Nat) : Prop := C b = true ∧ w ≤ T b - T (beg C b)
def Fires (T : Nat → Int) (C : Nat → Bool) (w k : Int) (i : Nat) : Prop := ∃ b, b ≤ i ∧ long T C w b ∧ (b = i ∨ 0 < k ∧ T i - T b < k)
open Classical in
noncomputable def atP (T : Nat → Int) (C : Nat → Bool) (w k : Int) (i : Nat) : Int := if Fires T C w k i then 2 else if C i = true then 1 else 0
theorem atP_yes {T : Nat → Int} {C : Nat → Bool} {w k : Int} {i : Nat} (h : Fires T C w k i) : atP T C w k i = 2 := if_pos h
theorem atP_no {T : Nat → Int} {C : Nat → Bool} {w k : Int} {i : Nat} (h : ¬ Fires T C w k i) : atP T C w k i = if C i = true then 1 else 0 := if_neg h
theorem atP_1 {T : Nat → Int} {C : Nat → Bool} {w k : Int} {i : Nat} (h : ¬ Fires T C w k i) (c : C i = true) : atP T C w k i = 1 := by rw [atP_no h, if_pos c]
theorem atP_0 {T : Nat → Int} {C : Nat → Bool} {w k : Int} {i : Nat} (h : ¬ Fires T C w k i) (c : C i = false) : atP T C w k i = 0 := by rw [atP_no h, if_neg (by simp [c])]
theorem atP_ne0 {T : Nat → Int} {C : Nat → Bool} {w k : Int} {i : Nat} : atP T C w k i = 0 → C i = false := by
  unfold atP; split
  · intro h; omega
  · split
    · intro h; omega
    · rename_i h; intro _; simpa using h
/-- What is asked of a place that may not be one. -/
noncomputable def atV (n : Nat) (T : Nat → Int) (C : Nat → Bool) (w k : Int) (i : Int) : Int :=
  if saneB n T = true ∧ 0 ≤ i ∧ i < n then atP T C (clT w) (clT k) i.toNat else -1

/-- A look that some place of its run has waited behind is long, and the other way about. -/
theorem long_of {n : Nat} {T : Nat → Int} (h : SaneP n T) {C : Nat → Bool} {w : Int} {a b : Nat} (hab : a ≤ b) (hb : b < n) (hc : ∀ j, a ≤ j → j ≤ b → C j = true) (hw : w ≤ T b - T a) : long T C w b := by
  refine ⟨hc b hab (Nat.le_refl _), ?_⟩
  have : beg C b ≤ a := by
    rcases Nat.lt_or_ge a (beg C b) with h1 | h1
    · exfalso
      have : ∀ d, d ≤ b - a → beg C b ≤ b - d := by
        intro d
        induction d with
        | zero => intro _; exact beg_le C b
        | succ d ih =>
          intro hd
          have ih := ih (by omega)
          rcases Nat.eq_or_lt_of_le ih with e | e
          · exfalso
            have := beg_edge C b
            rcases this with h2 | h2
            · omega
            · rw [hc (beg C b - 1) (by omega) (by omega)] at h2; cases h2
          · omega
      have := this (b - a) (Nat.le_refl _)
      omega
    · exact h1
  have := h.mono this (by omega)
  omega

/-- The runs that ended ahead of place i, and where the one that goes on began. -/
def rs (C : Nat → Bool) : Nat → List (Nat × Nat) × Option Nat
  | 0 => ([], none)
  | i + 1 => match C i, (rs C i).2 with
    | true, none => ((rs C i).1, some i)
    | true, some s => ((rs C i).1, some s)
    | false, none => ((rs C i).1, none)
    | false, some s => ((rs C i).1 ++ [(s, i - 1)], none)
def runs (C : Nat → Bool) (n : Nat) : List (Nat × Nat) := match (rs C n).2 with
  | none => (rs C n).1
  | some s => (rs C n).1 ++ [(s, n - 1)]

structure RInv (C : Nat → Bool) (i : Nat) (l : List (Nat × Nat)) (o : Option Nat) : Prop where
  op : ∀ s, o = some s → s < i ∧ (∀ j, s ≤ j → j < i → C j = true) ∧ (s = 0 ∨ C (s - 1) = false) ∧ ∀ p ∈ l, p.2 + 2 ≤ s
  cl : o = none → i = 0 ∨ C (i - 1) = false
  mem : ∀ p ∈ l, p.1 ≤ p.2 ∧ p.2 + 1 < i ∧ C (p.2 + 1) = false ∧ (∀ j, p.1 ≤ j → j ≤ p.2 → C j = true) ∧ (p.1 = 0 ∨ C (p.1 - 1) = false)
  cov : ∀ j, j < i → C j = true → (∃ p ∈ l, p.1 ≤ j ∧ j ≤ p.2) ∨ ∃ s, o = some s ∧ s ≤ j
  pw : l.Pairwise fun p q => p.2 + 2 ≤ q.1
theorem rInv (C : Nat → Bool) : ∀ i, RInv C i (rs C i).1 (rs C i).2
  | 0 => ⟨by simp [rs], by simp, by simp [rs], by simp, by simp [rs]⟩
  | i + 1 => by
    have I := rInv C i
    unfold rs
    generalize (rs C i).1 = l at I ⊢
    generalize (rs C i).2 = o at I ⊢
    cases hc : C i <;> cases o
    · refine ⟨by simp, fun _ => .inr (by simpa using hc), fun p hp => ?_, fun j hj hC => ?_, I.pw⟩
      · obtain ⟨a, b, c, d, e⟩ := I.mem p hp; exact ⟨a, by omega, c, d, e⟩
      · rcases Nat.lt_or_ge j i with h | h
        · exact I.cov j h hC
        · rw [show j = i by omega, hc] at hC; cases hC
    · rename_i s
      obtain ⟨o1, o2, o3, o4⟩ := I.op s rfl
      refine ⟨by simp, fun _ => .inr (by simpa using hc), fun p hp => ?_, fun j hj hC => ?_, ?_⟩
      · rcases List.mem_append.1 hp with hp | hp
        · obtain ⟨a, b, c, d, e⟩ := I.mem p hp; exact ⟨a, by omega, c, d, e⟩
        · simp at hp; subst hp
          refine ⟨by simp only; omega, by simp only; omega, ?_, fun j h1 h2 => o2 j h1 (by simp only at h2; omega), o3⟩
          simp only
          rw [show i - 1 + 1 = i by omega]; exact hc
      · rcases Nat.lt_or_ge j i with h | h
        · rcases I.cov j h hC with ⟨p, hp, h1⟩ | ⟨s', e, h1⟩
          · exact .inl ⟨p, List.mem_append.2 (.inl hp), h1⟩
          · cases e; exact .inl ⟨(s, i - 1), by simp, h1, by simp only; omega⟩
        · rw [show j = i by omega, hc] at hC; cases hC
      · rw [List.pairwise_append]
        exact ⟨I.pw, by simp, fun p hp q hq => by simp at hq; subst hq; exact o4 p hp⟩
    · refine ⟨fun s e => ?_, by simp, fun p hp => ?_, fun j hj hC => ?_, I.pw⟩
      · cases e
        refine ⟨by omega, fun j h1 h2 => by rw [show j = i by omega]; exact hc, ?_, fun p hp => ?_⟩
        · exact I.cl rfl
        · have := (I.mem p hp).2.1; omega
      · obtain ⟨a, b, c, d, e⟩ := I.mem p hp; exact ⟨a, by omega, c, d, e⟩
      · rcases Nat.lt_or_ge j i with h | h
        · rcases I.cov j h hC with h1 | ⟨s', e, h1⟩
          · exact .inl h1
          · cases e
        · exact .inr ⟨i, rfl, by omega⟩
    · rename_i s
      obtain ⟨o1, o2, o3, o4⟩ := I.op s rfl
      refine ⟨fun s' e => ?_, by simp, fun p hp => ?_, fun j hj hC => ?_, I.pw⟩
      · cases e
        refine ⟨by omega, fun j h1 h2 => ?_, o3, o4⟩
        rcases Nat.lt_or_ge j i with h | h
        · exact o2 j h1 h
        · rw [show j = i by omega]; exact hc
      · obtain ⟨a, b, c, d, e⟩ := I.mem p hp; exact ⟨a, by omega, c, d, e⟩
      · rcases Nat.lt_or_ge j i with h | h
        · exact I.cov j h hC
        · exact .inr ⟨s, rfl, by omega⟩

structure RunsOf (C : Nat → Bool) (n : Nat) (l : List (Nat × Nat)) : Prop where
  mem : ∀ p ∈ l, p.1 ≤ p.2 ∧ p.2 < n ∧ (∀ j, p.1 ≤ j → j ≤ p.2 → C j = true) ∧ (p.1 = 0 ∨ C (p.1 - 1) = false)
  cov : ∀ j, j < n → C j = true → ∃ p ∈ l, p.1 ≤ j ∧ j ≤ p.2
  pw : l.Pairwise fun p q => p.2 + 2 ≤ q.1
theorem runsOf (C : Nat → Bool) (n : Nat) : RunsOf C n (runs C n) := by
  have I := rInv C n
  unfold runs
  generalize (rs C n).1 = l at I ⊢
  generalize (rs C n).2 = o at I ⊢
  cases o with
  | none =>
    refine ⟨fun p hp => ?_, fun j hj hC => ?_, I.pw⟩
    · obtain ⟨a, b, c, d, e⟩ := I.mem p hp; exact ⟨a, by omega, d, e⟩
    · rcases I.cov j hj hC with h | ⟨s, e, _⟩
      · exact h
      · cases e
  | some s =>
    obtain ⟨o1, o2, o3, o4⟩ := I.op s rfl
    refine ⟨fun p hp => ?_, fun j hj hC => ?_, ?_⟩
    · rcases List.mem_append.1 hp with hp | hp
      · obtain ⟨a, b, c, d, e⟩ := I.mem p hp; exact ⟨a, by omega, d, e⟩
      · simp at hp; subst hp; exact ⟨by simp only; omega, by simp only; omega, fun j h1 h2 => o2 j h1 (by simp only at h2; omega), o3⟩
    · rcases I.cov j hj hC with ⟨p, hp, h⟩ | ⟨s', e, h1⟩
      · exact ⟨p, List.mem_append.2 (.inl hp), h⟩
      · cases e; exact ⟨(s, n - 1), by simp, h1, by simp only; omega⟩
    · rw [List.pairwise_append]
      exact ⟨I.pw, by simp, fun p hp q hq => by simp at hq; subst hq; exact o4 p hp⟩
theorem RunsOf.beg {C : Nat → Bool} {n : Nat} {l : List (Nat × Nat)} (h : RunsOf C n l) {p : Nat × Nat} (hp : p ∈ l) {j : Nat} (h1 : p.1 ≤ j) (h2 : j ≤ p.2) : beg C j = p.1 ∧ C j = true := by
  obtain ⟨_, _, a, b⟩ := h.mem p hp
  exact ⟨beg_of C p.1 b j h1 (fun i hi hj => a i hi (by omega)), a j h1 h2⟩
theorem runs_len_le (C : Nat → Bool) : ∀ i, (rs C i).1.length ≤ i ∧ (0 < i → (rs C i).2 ≠ none → (rs C i).1.length < i)
  | 0 => by simp [rs]
  | i + 1 => by
    obtain ⟨a, b⟩ := runs_len_le C i
    unfold rs
    split <;> rename_i h1 h2 <;> simp only [List.length_append, List.length_singleton]
    · exact ⟨by omega, fun _ _ => by omega⟩
    · exact ⟨by omega, fun _ _ => by omega⟩
    · exact ⟨by omega, fun _ h => absurd rfl h⟩
    · refine ⟨?_, fun _ h => absurd rfl h⟩
      omega
theorem runs_len (C : Nat → Bool) (n : Nat) : (runs C n).length ≤ n + 1 := by
  have := (runs_len_le C n).1
  unfold runs; split <;> simp <;> omega
/-- How often it begins to hold. -/
def begins (C : Nat → Bool) : Nat → Nat
  | 0 => 0
  | i + 1 => begins C i + (if C i = true ∧ (i = 0 ∨ C (i - 1) = false) then 1 else 0)
theorem begins_le (C : Nat → Bool) : ∀ i, begins C i ≤ i
  | 0 => Nat.le_refl _
  | i + 1 => by unfold begins; have := begins_le C i; split <;> omega
theorem begins_rs (C : Nat → Bool) : ∀ i, begins C i = (rs C i).1.length + (if (rs C i).2 = none then 0 else 1)
  | 0 => rfl
  | i + 1 => by
    have I := rInv C i
    have ih := begins_rs C i
    unfold begins rs
    generalize (rs C i).1 = l at I ih ⊢
    generalize (rs C i).2 = o at I ih ⊢
    cases hc : C i <;> cases o
    · simp at ih ⊢; exact ih
    · simp at ih ⊢; exact ih
    · have := I.cl rfl
      simp at ih ⊢; rw [if_pos this]; omega
    · rename_i s
      obtain ⟨o1, o2, o3, o4⟩ := I.op s rfl
      have h1 := o2 (i - 1) (by omega) (by omega)
      simp at ih ⊢
      rw [if_neg (by rintro (h | h); · omega
                     · rw [h1] at h; cases h)]; omega
theorem runs_begins (C : Nat → Bool) (n : Nat) : (runs C n).length = begins C n := by
  rw [begins_rs]; unfold runs; split <;> rename_i h <;> simp [h]

/-- Moved by as much. -/
theorem atP_shift (T : Nat → Int) (C : Nat → Bool) (w k b : Int) (i : Nat) : atP (fun j => T j + b) C w k i = atP T C w k i := by
  have e : Fires (fun j => T j + b) C w k i ↔ Fires T C w k i := by
    unfold Fires long
    constructor <;> rintro ⟨a, h1, ⟨h2, h3⟩, h4⟩ <;> refine ⟨a, h1, ⟨h2, ?_⟩, ?_⟩ <;> first | (simp only at h3 ⊢; omega) | (rcases h4 with h4 | h4 <;> first | exact .inl h4 | (refine .inr ⟨h4.1, ?_⟩; have := h4.2; simp only at this ⊢; omega))
  by_cases h : Fires T C w k i
  · rw [atP_yes h, atP_yes (e.2 h)]
  · rw [atP_no h, atP_no (fun x => h (e.1 x))]
/-- Where it always holds. -/
theorem beg_true (b : Nat) : beg (fun _ => true) b = 0 := beg_of _ 0 (.inl rfl) b (by omega) (fun _ _ _ => rfl)
theorem fires_true {n : Nat} {T : Nat → Int} (h : SaneP n T) (w k : Int) {i : Nat} (hi : i < n) : Fires T (fun _ => true) w k i ↔ w ≤ T i - T 0 := by
  constructor
  · rintro ⟨b, hb, ⟨_, h1⟩, _⟩
    rw [beg_true] at h1
    have := h.mono hb hi
    omega
  · intro h1
    exact ⟨i, Nat.le_refl _, ⟨rfl, by rw [beg_true]; exact h1⟩, .inl rfl⟩
theorem fires_false (T : Nat → Int) (w k : Int) (i : Nat) : ¬ Fires T (fun _ => false) w k i := by
  rintro ⟨b, _, ⟨h, _⟩, _⟩; cases h
/-- No keep: it fires only where it holds. -/
theorem fires_nokeep {T : Nat → Int} {C : Nat → Bool} {w : Int} {i : Nat} (h : Fires T C w 0 i) : C i = true := by
  obtain ⟨b, hb, ⟨h1, _⟩, h2 | h2⟩ := h
  · subst h2; exact h1
  · omega
theorem fires_plain {n : Nat} {T : Nat → Int} (h : SaneP n T) {C : Nat → Bool} {i : Nat} (hi : i < n) : Fires T C 0 0 i ↔ C i = true := by
  refine ⟨fires_nokeep, fun c => ⟨i, Nat.le_refl _, ⟨c, ?_⟩, .inl rfl⟩⟩
  have := h.mono (beg_le C i) hi
  omega
end Go.Proofs.Ytcmhceilbampiaa.PastP
