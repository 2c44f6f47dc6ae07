/-
  THE PLAIN LAW OF A HOLD: what 'hold' and its reference reckon, with no program in sight.
-/
namespace Go.Proofs.Ytcmhceilbampiaa.HoldP
/-- The greatest time. -/
def maxT : Int := 9007199254740992
def isT (t : Int) : Bool := decide (0 ≤ t) && decide (t ≤ 9007199254740992)
def clT (n : Int) : Int := min (max n 0) 9007199254740992
structure Hd where
  on : Bool
  since : Int
  hit : Bool
  fired : Int
def none_ : Hd := ⟨false, 0, false, 0⟩
def saneH (h : Hd) : Bool := isT h.since && isT h.fired && (h.on || h.since == 0) && (h.hit || h.fired == 0)
def cnt (h : Hd) : Hd := if saneH h = true then h else none_
/-- Does it still fire by what is kept? -/
def keptB (f t k : Int) : Bool := decide (0 < k) && decide (f < t) && decide (t - f < k)
def now0 (h : Hd) (t k : Int) : Int := if (h.hit && (h.fired == t || keptB h.fired t k)) = true then 2 else if h.on = true then 1 else 0
def now (h : Hd) (t k : Int) : Int := now0 (cnt h) (clT t) (clT k)
def step0 (h : Hd) (c : Bool) (t wt : Int) : Hd :=
  if c = true then
    let s := if h.on = true ∧ h.since ≤ t then h.since else t
    if wt ≤ t - s then ⟨true, s, true, t⟩ else ⟨true, s, h.hit, h.fired⟩
  else ⟨false, 0, h.hit, h.fired⟩
def stepH (h : Hd) (c : Bool) (t wt : Int) : Hd := step0 (cnt h) c (clT t) (clT wt)
def gone0 (h : Hd) (t k : Int) : Bool := (now0 h t k == 0) && !h.on && (!h.hit || (decide (h.fired < t) && decide (k ≤ t - h.fired)))
def gone (h : Hd) (t k : Int) : Bool := gone0 (cnt h) (clT t) (clT k)

theorem isT_iff (t : Int) : isT t = true ↔ 0 ≤ t ∧ t ≤ 9007199254740992 := by simp [isT]
theorem clT_of (t : Int) (h : isT t = true) : clT t = t := by rw [isT_iff] at h; unfold clT; omega
theorem isT_cl (t : Int) : isT (clT t) = true := by rw [isT_iff]; unfold clT; omega
theorem cl_cl (t : Int) : clT (clT t) = clT t := clT_of _ (isT_cl t)
theorem cl_bd (t : Int) : 0 ≤ clT t ∧ clT t ≤ 9007199254740992 := by unfold clT; omega
theorem sane_iff (h : Hd) : saneH h = true ↔ isT h.since = true ∧ isT h.fired = true ∧ (h.on = true ∨ h.since = 0) ∧ (h.hit = true ∨ h.fired = 0) := by
  simp [saneH, and_assoc]
theorem sane_none : saneH none_ = true := by decide
theorem sane_cnt (h : Hd) : saneH (cnt h) = true := by
  unfold cnt; split
  · assumption
  · exact sane_none
theorem cnt_of {h : Hd} (s : saneH h = true) : cnt h = h := if_pos s
theorem cnt_cnt (h : Hd) : cnt (cnt h) = cnt h := cnt_of (sane_cnt h)
theorem sane_bd {h : Hd} (s : saneH h = true) : 0 ≤ h.since ∧ h.since ≤ 9007199254740992 ∧ 0 ≤ h.fired ∧ h.fired ≤ 9007199254740992 := by
  rw [sane_iff, isT_iff, isT_iff] at s; omega
theorem step0_sane {h : Hd} (s : saneH h = true) (c : Bool) (t wt : Int) (ht : isT t = true) : saneH (step0 h c t wt) = true := by
  have hb := sane_iff h |>.1 s
  unfold step0
  split
  · dsimp only
    split <;> split <;> rw [sane_iff] <;> simp_all
  · rw [sane_iff]; refine ⟨(show isT 0 = true by decide), hb.2.1, .inr rfl, hb.2.2.2⟩
theorem step_sane (h : Hd) (c : Bool) (t wt : Int) : saneH (stepH h c t wt) = true := step0_sane (sane_cnt h) c _ _ (isT_cl t)
theorem now_of {h : Hd} (s : saneH h = true) (t k : Int) : now h t k = now0 h (clT t) (clT k) := by unfold now; rw [cnt_of s]
end Go.Proofs.Ytcmhceilbampiaa.HoldP
