/-
  THE DISK's PLAIN LAW: what is written whole is read, what is torn is not; no program in sight.
-/
import Derived.Test.YtkkbncgnobaliaaDskR
namespace Go.Proofs.Ytkkbncgnobaliaa
open CodP
open CrcP
set_option linter.unusedVariables false
theorem decU_short : ∀ (f n i acc k : Nat), n < 128 ^ (f + 1) → k < (encU n).length → decU (f + 1) i acc ((encU n).take k) = .error 3
  | f, n, i, acc, 0, h, hk => by simp [decU]
  | f, n, i, acc, k + 1, h, hk => by
    by_cases h1 : n < 128
    · rw [encU_lt h1] at hk; simp at hk
    · rw [encU_ge h1] at hk ⊢
      have hf : ∃ f', f = f' + 1 := by
        cases f with
        | zero => simp at h; omega
        | succ f' => exact ⟨f', rfl⟩
      obtain ⟨f', rfl⟩ := hf
      have hlt := Nat.mod_lt n (show 0 < 128 by omega)
      have e : (UInt8.ofNat (n % 128 + 128)).toNat = n % 128 + 128 := UInt8.toNat_ofNat_of_lt' (by show _ < 256; omega)
      simp only [List.take_succ_cons, decU, e]
      rw [if_pos (by omega)]
      exact decU_short f' (n / 128) (i + 1) _ k (by rw [Nat.pow_succ] at h; omega) (by simpa using hk)
theorem getU_short {n k : Nat} (h : n ≤ 1152921504606846976) (hk : k < (encU n).length) : getU ((encU n).take k) = .error 3 :=
  decU_short 8 n 0 0 k (pow_le n h) hk
theorem getF_cut (q : List UInt8) (hq : q.length ≤ 65536) (k : Nat) (hk : k < (recd q).length) : getF ((recd q).take k) = .error 3 := by
  unfold getF
  have hr : recd q = encU q.length ++ (q ++ le4 (sum (nats q))) := by unfold recd; rw [List.append_assoc]
  by_cases h : k < (encU q.length).length
  · have e : (recd q).take k = (encU q.length).take k := by rw [hr, List.take_append_of_le_length (by omega)]
    rw [e, getU_short (by omega) h]
  · have e : (recd q).take k = encU q.length ++ (q ++ le4 (sum (nats q))).take (k - (encU q.length).length) := by
      rw [hr, List.take_append, List.take_of_length_le (by omega)]
    have hl : (recd q).length = (encU q.length).length + q.length + 4 := by rw [hr]; simp [le4_len]; omega
    rw [e, getU_encU _ _ (by omega)]
    simp only
    rw [if_neg (by omega), if_pos (by rw [List.length_take]; omega)]
theorem wholeD_rec (g : Nat) (p : List UInt8) (hg : g ≤ 9007199254740992) (hp : (encU g ++ p).length ≤ 65536) : wholeD (recd (encU g ++ p)) = some (g, p) := by
  unfold wholeD
  have := getF_recd (encU g ++ p) [] hp
  rw [List.append_nil] at this
  rw [this]
  simp only
  rw [getU_encU g p (by omega)]
  simp only
  rw [if_pos hg]
theorem wholeD_err {l : List UInt8} {c : Nat} (h : getF l = .error c) : wholeD l = none := by unfold wholeD; rw [h]
theorem ofSlot_whole {g : Nat} {p : List UInt8} (ho : okD g p) : ofSlot (g % 2) (recD g p) = some (g, p) := by
  have h := recD_yes ho
  have e : ((g : Int)).toNat = g := by omega
  have ho2 := ho.2
  have ho1 := ho.1.2
  rw [e] at h ho2
  rw [h]
  unfold ofSlot
  rw [wholeD_rec g p (by omega) ho2]
  simp
theorem ofSlot_torn {g : Nat} {p : List UInt8} (ho : okD g p) (i k : Nat) (hk : k < (recD g p).length) : ofSlot i ((recD g p).take k) = none := by
  have h := recD_yes ho
  rw [h] at hk ⊢
  unfold ofSlot
  rw [wholeD_err (getF_cut _ ho.2 k hk)]
theorem ofSlot_par {i : Nat} {l : List UInt8} {g : Nat} {p : List UInt8} (h : ofSlot i l = some (g, p)) : g % 2 = i := by
  unfold ofSlot at h
  split at h
  · split at h
    · cases h; assumption
    · cases h
  · cases h
/-- The two slots behind a write. -/
theorem read_whole0 {s0 s1 : List UInt8} {g : Nat} {p : List UInt8} (ho : okD g p) (hg : genD s0 s1 = g) (hp : g % 2 = 0) : readD (recD g p) s1 = some (g, p) := by
  have h0 := ofSlot_whole ho
  rw [hp] at h0
  unfold readD
  rw [h0]
  cases h1 : ofSlot 1 s1 with
  | none => rfl
  | some x =>
    obtain ⟨g1, p1⟩ := x
    have : g1 < g := by
      unfold genD readD at hg
      rw [h1] at hg
      cases h2 : ofSlot 0 s0 with
      | none => rw [h2] at hg; simp [later] at hg; omega
      | some y =>
        obtain ⟨g0, p0⟩ := y
        rw [h2] at hg
        by_cases hc : g0 < g1
        · simp [later, hc] at hg; omega
        · simp [later, hc] at hg; omega
    simp only [later]
    rw [if_neg (by omega)]
theorem read_whole1 {s0 s1 : List UInt8} {g : Nat} {p : List UInt8} (ho : okD g p) (hg : genD s0 s1 = g) (hp : g % 2 = 1) : readD s0 (recD g p) = some (g, p) := by
  have h0 := ofSlot_whole ho
  rw [hp] at h0
  unfold readD
  rw [h0]
  cases h1 : ofSlot 0 s0 with
  | none => rfl
  | some x =>
    obtain ⟨g0, p0⟩ := x
    have : g0 < g := by
      unfold genD readD at hg
      rw [h1] at hg
      cases h2 : ofSlot 1 s1 with
      | none => rw [h2] at hg; simp [later] at hg; omega
      | some y =>
        obtain ⟨g1, p1⟩ := y
        rw [h2] at hg
        by_cases hc : g0 < g1
        · simp [later, hc] at hg; omega
        · simp [later, hc] at hg; omega
    simp only [later]
    rw [if_pos this]
theorem read_torn0 {s0 s1 t : List UInt8} (ht : ofSlot 0 t = none) (hp : genD s0 s1 % 2 = 0) : readD t s1 = readD s0 s1 := by
  unfold genD at hp
  unfold readD at hp ⊢
  rw [ht]
  cases h0 : ofSlot 0 s0 with
  | none => rfl
  | some x =>
    obtain ⟨g0, p0⟩ := x
    have e0 := ofSlot_par h0
    rw [h0] at hp
    cases h1 : ofSlot 1 s1 with
    | none => rw [h1] at hp; simp [later] at hp; omega
    | some y =>
      obtain ⟨g1, p1⟩ := y
      rw [h1] at hp
      by_cases hc : g0 < g1
      · simp [later, hc]
      · simp [later, hc] at hp; omega
theorem read_torn1 {s0 s1 t : List UInt8} (ht : ofSlot 1 t = none) (hp : genD s0 s1 % 2 = 1) : readD s0 t = readD s0 s1 := by
  unfold genD at hp
  unfold readD at hp ⊢
  rw [ht]
  cases h1 : ofSlot 1 s1 with
  | none => rfl
  | some x =>
    obtain ⟨g1, p1⟩ := x
    have e1 := ofSlot_par h1
    rw [h1] at hp
    cases h0 : ofSlot 0 s0 with
    | none => rw [h0] at hp; simp [later] at hp; omega
    | some y =>
      obtain ⟨g0, p0⟩ := y
      rw [h0] at hp
      by_cases hc : g0 < g1
      · simp [later, hc] at hp; omega
      · simp [later, hc]
end Go.Proofs.Ytkkbncgnobaliaa
