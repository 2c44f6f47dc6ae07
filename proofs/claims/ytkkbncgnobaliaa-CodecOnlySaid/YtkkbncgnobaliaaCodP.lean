/-
  THE PLAIN LAW OF A NUMBER AS OCTETS: what 'codec' puts and gets, with no program in sight.
-/
namespace Go.Proofs.Ytkkbncgnobaliaa.CodP
set_option linter.unusedVariables false
/-- A number's octets. -/
def encU (n : Nat) : List UInt8 := if n < 128 then [UInt8.ofNat n] else UInt8.ofNat (n % 128 + 128) :: encU (n / 128)
termination_by n
decreasing_by omega
theorem encU_lt {n : Nat} (h : n < 128) : encU n = [UInt8.ofNat n] := by rw [encU, if_pos h]
theorem encU_ge {n : Nat} (h : ¬ n < 128) : encU n = UInt8.ofNat (n % 128 + 128) :: encU (n / 128) := by rw [encU, if_neg h]
/-- What stands first: a number and the rest, or an error's number; i octets, worth acc, were read ahead. -/
def decU : Nat → Nat → Nat → List UInt8 → Except Nat (Nat × List UInt8)
  | 0, _, _, _ => .error 2
  | _ + 1, _, _, [] => .error 3
  | f + 1, i, acc, x :: xs =>
    if 128 ≤ x.toNat then decU f (i + 1) (acc + x.toNat % 128 * 128 ^ i) xs
    else if 1152921504606846976 < acc + x.toNat % 128 * 128 ^ i then .error 2
    else if x.toNat = 0 ∧ 0 < i then .error 1
    else .ok (acc + x.toNat % 128 * 128 ^ i, xs)
/-- The number that stands first. -/
def getU (l : List UInt8) : Except Nat (Nat × List UInt8) := decU 9 0 0 l
theorem encU_length_le : ∀ (f n : Nat), n < 128 ^ (f + 1) → (encU n).length ≤ f + 1
  | 0, n, h => by rw [encU_lt (by simpa using h)]; simp
  | f + 1, n, h => by
    by_cases h1 : n < 128
    · rw [encU_lt h1]; simp
    · rw [encU_ge h1]
      have := encU_length_le f (n / 128) (by rw [Nat.pow_succ] at h; omega)
      simp; omega
theorem encU_pos (n : Nat) : 0 < (encU n).length := by
  by_cases h : n < 128
  · rw [encU_lt h]; simp
  · rw [encU_ge h]; simp
/-- What is put is got. -/
theorem decU_encU : ∀ (f n i acc : Nat) (t : List UInt8), n < 128 ^ (f + 1) → (0 < n ∨ i = 0) → acc + n * 128 ^ i ≤ 1152921504606846976 → decU (f + 1) i acc (encU n ++ t) = .ok (acc + n * 128 ^ i, t)
  | f, n, i, acc, t, h, hp, hm => by
    by_cases h1 : n < 128
    · rw [encU_lt h1]
      have e : (UInt8.ofNat n).toNat = n := UInt8.toNat_ofNat_of_lt' (by show _ < 256; omega)
      simp only [List.cons_append, List.nil_append, decU, e, Nat.mod_eq_of_lt h1]
      rw [if_neg (by omega), if_neg (by omega), if_neg (by omega)]
    · rw [encU_ge h1]
      have hf : ∃ f', f = f' + 1 := by
        cases f with
        | zero => simp at h; omega
        | succ f' => exact ⟨f', rfl⟩
      obtain ⟨f', rfl⟩ := hf
      have hlt := Nat.mod_lt n (show 0 < 128 by omega)
      have e : (UInt8.ofNat (n % 128 + 128)).toNat = n % 128 + 128 := UInt8.toNat_ofNat_of_lt' (by show _ < 256; omega)
      simp only [List.cons_append, decU, e]
      rw [if_pos (by omega)]
      have e2 : (n % 128 + 128) % 128 = n % 128 := by omega
      rw [e2]
      have hsum : acc + n % 128 * 128 ^ i + n / 128 * 128 ^ (i + 1) = acc + n * 128 ^ i := by
        have := Nat.mod_add_div n 128
        rw [Nat.pow_succ]
        generalize 128 ^ i = P
        have e3 : n * P = n % 128 * P + n / 128 * (P * 128) := by
          have e4 : (n % 128 + 128 * (n / 128)) * P = n * P := by rw [this]
          rw [← e4, Nat.add_mul, Nat.mul_comm 128 (n / 128), Nat.mul_assoc (n / 128) 128 P, Nat.mul_comm 128 P]
        omega
      rw [decU_encU f' (n / 128) (i + 1) _ t (by rw [Nat.pow_succ] at h; omega) (.inl (by omega)) (by rw [hsum]; exact hm), hsum]
theorem pow_le (n : Nat) (h : n ≤ 1152921504606846976) : n < 128 ^ 9 := by
  have : (128 : Nat) ^ 9 = 9223372036854775808 := by simp
  omega
theorem getU_encU (n : Nat) (t : List UInt8) (h : n ≤ 1152921504606846976) : getU (encU n ++ t) = .ok (n, t) := by
  have := decU_encU 8 n 0 0 t (pow_le n h) (.inr rfl) (by simpa using h)
  simpa [getU] using this
/-- What is got was put. -/
theorem decU_ok : ∀ (f i acc : Nat) (l : List UInt8) (m : Nat) (r : List UInt8), acc < 128 ^ i → decU f i acc l = .ok (m, r) → ∃ n, m = acc + n * 128 ^ i ∧ l = encU n ++ r ∧ m ≤ 1152921504606846976 ∧ (0 < n ∨ i = 0)
  | 0, _, _, _, _, _, _, h => by simp [decU] at h
  | _ + 1, _, _, [], _, _, _, h => by simp [decU] at h
  | f + 1, i, acc, x :: xs, m, r, ha, h => by
    have hx := x.toNat_lt
    simp only [decU] at h
    by_cases h1 : 128 ≤ x.toNat
    · rw [if_pos h1] at h
      have e0 : x.toNat % 128 = x.toNat - 128 := by omega
      rw [e0] at h
      have ha' : acc + (x.toNat - 128) * 128 ^ i < 128 ^ (i + 1) := by
        have : (x.toNat - 128) * 128 ^ i ≤ 127 * 128 ^ i := Nat.mul_le_mul_right _ (by omega)
        rw [Nat.pow_succ]; omega
      obtain ⟨n, e1, e2, e3, e4⟩ := decU_ok f (i + 1) _ xs m r ha' h
      have hn : 0 < n := by
        rcases e4 with e4 | e4
        · exact e4
        · omega
      refine ⟨128 * n + (x.toNat - 128), ?_, ?_, e3, .inl (by omega)⟩
      · rw [e1, Nat.pow_succ]
        generalize 128 ^ i = P
        rw [Nat.add_mul (128 * n), Nat.mul_comm 128 n, Nat.mul_assoc n 128 P, Nat.mul_comm P 128]
        omega
      · have e5 : (128 * n + (x.toNat - 128)) / 128 = n := by omega
        have e6 : (128 * n + (x.toNat - 128)) % 128 + 128 = x.toNat := by omega
        rw [encU_ge (by omega), e5, e6, e2]
        simp
    · rw [if_neg h1] at h
      have e0 : x.toNat % 128 = x.toNat := by omega
      rw [e0] at h
      by_cases h2 : 1152921504606846976 < acc + x.toNat * 128 ^ i
      · rw [if_pos h2] at h; cases h
      · rw [if_neg h2] at h
        by_cases h3 : x.toNat = 0 ∧ 0 < i
        · rw [if_pos h3] at h; cases h
        · rw [if_neg h3] at h
          cases h
          refine ⟨x.toNat, rfl, ?_, by omega, by omega⟩
          rw [encU_lt (by omega)]
          simp
theorem getU_ok {l : List UInt8} {m : Nat} {r : List UInt8} (h : getU l = .ok (m, r)) : l = encU m ++ r ∧ m ≤ 1152921504606846976 := by
  obtain ⟨n, e1, e2, e3, -⟩ := decU_ok 9 0 0 l m r (by decide) h
  simp at e1
  subst e1
  exact ⟨e2, e3⟩
theorem decU_err : ∀ (f i acc : Nat) (l : List UInt8) (c : Nat), decU f i acc l = .error c → c ≠ 0
  | 0, _, _, _, c, h => by simp [decU] at h; omega
  | _ + 1, _, _, [], c, h => by simp [decU] at h; omega
  | f + 1, i, acc, x :: xs, c, h => by
    simp only [decU] at h
    split at h
    · exact decU_err f _ _ xs c h
    · split at h
      · cases h; omega
      · split at h
        · cases h; omega
        · cases h
theorem getU_err {l : List UInt8} {c : Nat} (h : getU l = .error c) : c ≠ 0 := decU_err _ _ _ _ _ h
end Go.Proofs.Ytkkbncgnobaliaa.CodP
