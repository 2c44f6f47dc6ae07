/-
  The law CodecMany.
-/
import Derived.Test.YtkkbncgnobaliaaCodA
import Derived.Test.YtkkbncgnobaliaaFrmO
namespace Go.Proofs.Ytkkbncgnobaliaa
open Go.ChangeShapes Go.WideShapes Go.ChangeAt Go.RowKit Go.Joins
open CodP
set_option linter.unusedVariables false
/-- A slice of numbers. -/
def IsInts (W : World) (v : Value) : Prop := ∃ (A : Option Addr) (n c : Nat) (Z : Nat → Int), v = .slice A n c ∧ Sl W W.heap.size A n (fun i => .int .i64 (Z i)) ∧ n ≤ c ∧ c ≤ 9223372036854775807
def intOf' : Value → Int
  | .int _ z => z
  | _ => 0
section
variable {H : Type} {enc : TypeId × Value → H} {W : World} {base : Nat} {v : Value} {d : DataW H} {p : List MemPlace}
set_option maxRecDepth 100000 in
theorem open_intsl (hv : Value.okWide Try.prog W .any base 54 v) (h : DataW.Trod enc Try.prog W 0 (fun _ => true) true 54 v d p) (_hlt : ∀ x ∈ p, x.block < W.heap.size) : IsInts W v := by
  obtain ⟨A, n, c, rfl⟩ := okWide_slice Try.underlying54 hv
  obtain ⟨fuel, hf⟩ := h
  rcases Deep.open_slice1 Try.underlying54 (by kernel_rfl) hf with ⟨hcs, _⟩ | ⟨x, l, c', m, k, V, D, Pl, hcs, _, hl, hm, hmm, _, hcell⟩
  · simp [Value.cells] at hcs
    obtain ⟨rfl, rfl, rfl⟩ := hcs
    exact ⟨none, 0, 0, fun _ => 0, rfl, Sl.zero _ _ _ _, Nat.le_refl _, by omega⟩
  · simp [Value.cells] at hcs
    obtain ⟨rfl, rfl, rfl⟩ := hcs
    simp at hmm
    subst hmm
    refine ⟨_, n, m, fun i => intOf' (V i), rfl, fun hn => ?_, hl, by unfold maxLen at hm; omega⟩
    obtain ⟨b, off, spot⟩ := x
    have h0 := (hcell 0 (by omega)).1
    have hspot : spot = none := by simpa [Addr.add] using World.cell?_spot h0
    subst hspot
    have hadd : ∀ i, (⟨b, off, none⟩ : Addr).add i = ⟨b, off + i, none⟩ := fun i => by unfold Addr.add; split <;> simp_all
    refine ⟨b, off, rfl, ?_, fun i hi => ?_⟩
    · rcases Nat.lt_or_ge b W.heap.size with h' | h'
      · exact h'
      · rw [hadd] at h0; simp [World.cell?, Array.getElem?_eq_none h'] at h0
    · obtain ⟨c0, t0⟩ := hcell i (by omega)
      obtain ⟨z, e0, -⟩ := DataW.trod_int Try.underlying3 t0
      simp at e0
      rw [hadd] at c0
      simp only [c0, e0, intOf']
end
/-- cnt numbers from place k on. -/
def fI (Z : Nat → Int) : Nat → Nat → List UInt8
  | _, 0 => []
  | k, c + 1 => encU (encI (Z k)) ++ fI Z (k + 1) c
theorem fI_snoc (Z : Nat → Int) : ∀ (c k : Nat), fI Z k (c + 1) = fI Z k c ++ encU (encI (Z (k + c)))
  | 0, k => by simp [fI]
  | c + 1, k => by rw [fI, fI_snoc Z c (k + 1), fI, List.append_assoc]; rw [show k + 1 + c = k + (c + 1) by omega]
theorem encI_le {z : Int} (h : -576460752303423488 ≤ z ∧ z ≤ 576460752303423488) : encI z ≤ 1152921504606846976 := by unfold encI; split <;> omega
theorem fI_len (Z : Nat → Int) : ∀ (c k : Nat), (∀ i, i < k + c → -576460752303423488 ≤ Z i ∧ Z i ≤ 576460752303423488) → (fI Z k c).length ≤ 9 * c
  | 0, k, _ => by simp [fI]
  | c + 1, k, h => by
    rw [fI, List.length_append]
    have h1 := fI_len Z c (k + 1) (fun i hi => h i (by omega))
    have h2 := encU_length_le 8 _ (pow_le _ (encI_le (h k (by omega))))
    omega
set_option maxRecDepth 100000 in
set_option maxHeartbeats 6400000 in
theorem codecMany_walk (w : World) (lv : Value) (ol : IsInts w lv) :
    Calls Try.prog 11 #[lv] w fun e w' => e = .returned (.bool true) ∧ Below w.heap.size w w' := by
  obtain ⟨A, n, cap, Z, rfl, hsl, hcap, hm⟩ := ol
  have HS := Lib.hid hsl; clear hsl
  obtain ⟨m, hmn, hm50, hmo⟩ : ∃ m, m ≤ n ∧ m ≤ 50 ∧ (m = n ∨ (m = 50 ∧ 50 < n)) := by
    by_cases h : n ≤ 50
    · exact ⟨n, by omega, h, .inl rfl⟩
    · exact ⟨50, by omega, by omega, .inr ⟨rfl, by omega⟩⟩
  go_enter Try.func11, Try.ntmps11
  go_wp2_with fail
  refine (cawake_any _).mono ?_
  rintro e w1 ⟨rfl, hb1⟩
  have hs1 := hb1.size
  have HS1 := Lib.hid ((HS.out.below hb1).more hb1.size)
  go_wp2
  go_loopw [4, 5] (fun vb x wr => ∃ (k : Nat) (A2 : Option Addr) (n2 c2 : Nat), k ≤ m ∧ x = .int .i64 (k : Int) ∧ vb = .slice A2 n2 c2 ∧ Hid (Bs wr wr.heap.size A2 n2 (fI Z 0 k)) ∧ n2 ≤ c2 ∧ c2 ≤ 9223372036854775807 ∧ Hid (∀ i, i < k → -576460752303423488 ≤ Z i ∧ Z i ≤ 576460752303423488) ∧ Below w1.heap.size w1 wr) (fun _ x _ => m - (intOf x).toNat)
  case atStart => exact ⟨0, none, 0, 0, by omega, rfl, rfl, Lib.hid (Bs.nil_ _ _ _), by omega, by omega, Lib.hid (fun i hi => absurd hi (Nat.not_lt_zero _)), Below.refl _ _⟩
  case round =>
    obtain ⟨k, A2, n2, c2, hk, rfl, rfl, hbs, hnc2, hcm2, hall, hB⟩ := hrel
    by_cases hlt : k < m
    · obtain ⟨b, off, rfl, hbB, hc⟩ := HS1.out (by omega)
      have hx0 : wr.cell? ⟨b, off + k, none⟩ = some (.int .i64 (Z k)) := (hB.cell (p := ⟨b, off + k, none⟩) hbB).trans (hc k (by omega))
      clear hc
      obtain ⟨z, hz⟩ : ∃ z, Hid (Z k = z) := ⟨_, Lib.hid rfl⟩
      rw [hz.out] at hx0
      have hkn : k < n := by omega
      have hk50 : k < 50 := by omega
      by_cases h1 : z < -576460752303423488
      · go_wp2
        go_ret
        exact ⟨rfl, hb1.trans (hB.mono hs1)⟩
      have d1 : decide (z < -576460752303423488) = false := decide_eq_false h1
      by_cases h2 : 576460752303423488 < z
      · go_wp2
        go_ret
        exact ⟨rfl, hb1.trans (hB.mono hs1)⟩
      have d2 : decide (576460752303423488 < z) = false := decide_eq_false h2
      have hl := Lib.hid (show n2 ≤ 450 by
        have h3 := fI_len Z k 0 (fun i hi => hall.out i (by omega))
        rw [hbs.out.len] at h3; omega)
      have HP := Lib.hid (show putI (fI Z 0 k) z = fI Z 0 (k + 1) by rw [fI_snoc, Nat.zero_add, hz.out]; unfold putI; rw [if_pos ⟨by omega, by omega⟩])
      go_wp2_with fail
      refine (putI_any A2 n2 c2 (fI Z 0 k) z wr (by have := hl.out; omega) hbs.out).mono ?_
      rintro e w3 ⟨⟨v3, rfl, hown3⟩, hb3⟩
      rw [HP.out] at hown3
      obtain ⟨A3, n3, c3, rfl, hs3, hnc3, hcm3⟩ := hown3.bs
      have hs3 := Lib.hid hs3
      have hcm3' : c3 ≤ 9223372036854775807 := hcm3
      clear hown3
      go_wp2
      go_roundw
      case rel =>
        refine ⟨k + 1, A3, n3, c3, by omega, by go_num, rfl, hs3, hnc3, hcm3', Lib.hid (fun i hi => ?_), hB.trans (hb3.mono hB.size)⟩
        rcases Nat.lt_or_ge i k with h' | h'
        · exact hall.out i h'
        · obtain rfl : i = k := by omega
          rw [hz.out]; omega
      case measure => simp [intOf]; omega
    · obtain rfl : k = m := by omega
      have hsr := hB.size
      have HS2 := Lib.hid ((HS1.out.below hB).more hsr)
      have hend : Hid (k = n ∨ (k = 50 ∧ 50 < n)) := Lib.hid hmo
      clear hmo
      rename World => w2
      rcases hend.out with h9 | ⟨h9, h50⟩
      · have hnn : decide (k < n) = false := decide_eq_false (by omega)
        go_wp2
        go_loopw [4, 6] (fun vb x wq => ∃ (j : Nat) (A2 : Option Addr) (n2 c2 : Nat), j ≤ k ∧ x = .int .i64 (j : Int) ∧ vb = .slice A2 n2 c2 ∧ Hid (Bs wq wq.heap.size A2 n2 (fI Z j (k - j))) ∧ n2 ≤ c2 ∧ c2 ≤ 9223372036854775807 ∧ Below w2.heap.size w2 wq) (fun _ x _ => k - (intOf x).toNat)
        case atStart => exact ⟨0, A2, n2, c2, by omega, rfl, rfl, Lib.hid hbs.out, hnc2, hcm2, Below.refl _ _⟩
        case round =>
          obtain ⟨j, A3, n3, c3, hj, rfl, rfl, hbs3, hnc3, hcm3, hBq⟩ := hrel
          by_cases hjlt : j < k
          · obtain ⟨b, off, rfl, hbB, hc⟩ := HS2.out (by omega)
            obtain ⟨z, hz⟩ : ∃ z, Hid (Z j = z) := ⟨_, Lib.hid rfl⟩
            have hcz : w2.cell? ⟨b, off + j, none⟩ = some (.int .i64 z) := by rw [← hz.out]; exact hc j (by omega)
            clear hc
            have hjn : j < n := by omega
            have hj50 : j < 50 := by omega
            have HG := Lib.hid (show getI (fI Z j (k - j)) = .ok (z, fI Z (j + 1) (k - (j + 1))) by
              rw [show k - j = (k - (j + 1)) + 1 by omega, fI, hz.out]
              exact getI_putI z _ (by rw [← hz.out]; exact hall.out j hjlt))
            have hn63 : n3 ≤ 9223372036854775807 := by omega
            go_wp2_with fail
            refine (getI_any A3 n3 c3 _ _ hn63 hnc3 hcm3 hbs3.out).mono ?_
            rintro e w5 ⟨rfl, hb5⟩
            rw [HG.out]
            simp only [gotI]
            have hlen5 := Lib.hid hbs3.out.len
            have hl5 : (fI Z (j + 1) (k - (j + 1))).length ≤ n3 := by
              rw [← hlen5.out, show k - j = (k - (j + 1)) + 1 by omega, fI, List.length_append]; omega
            have hbs5 : Bs w5 w5.heap.size (cutAt A3 c3 (n3 - (fI Z (j + 1) (k - (j + 1))).length) 1) (fI Z (j + 1) (k - (j + 1))).length (fI Z (j + 1) (k - (j + 1))) := by
              have h9 := (hbs3.out.now hb5).lo (k := n3 - (fI Z (j + 1) (k - (j + 1))).length) (cap := c3) (by omega) hnc3
              have e1 : (fI Z j (k - j)).drop (n3 - (fI Z (j + 1) (k - (j + 1))).length) = fI Z (j + 1) (k - (j + 1)) := by
                have hh := hlen5.out
                rw [show k - j = (k - (j + 1)) + 1 by omega, fI] at hh ⊢
                rw [List.length_append] at hh
                rw [show n3 - (fI Z (j + 1) (k - (j + 1))).length = (encU (encI (Z j))).length by omega, List.drop_left]
              have e2 : n3 - (n3 - (fI Z (j + 1) (k - (j + 1))).length) = (fI Z (j + 1) (k - (j + 1))).length := by omega
              rw [e1, e2] at h9
              exact h9
            have hbs5 := Lib.hid hbs5
            generalize cutAt A3 c3 (n3 - (fI Z (j + 1) (k - (j + 1))).length) 1 = A6 at hbs5 ⊢
            obtain ⟨c6, hc6⟩ : ∃ c6, c3 - (n3 - (fI Z (j + 1) (k - (j + 1))).length) = c6 := ⟨_, rfl⟩
            obtain ⟨n6, hn6⟩ : ∃ n6, (fI Z (j + 1) (k - (j + 1))).length = n6 := ⟨_, rfl⟩
            have hc6n : n6 ≤ c6 ∧ c6 ≤ 9223372036854775807 := by omega
            rw [hc6]
            rw [hn6] at hbs5 ⊢
            clear hc6 hn6 hl5
            have hBq5 := hBq.trans (hb5.mono hBq.size)
            have hx5 : w5.cell? ⟨b, off + j, none⟩ = some (.int .i64 z) := (hBq5.cell (p := ⟨b, off + j, none⟩) hbB).trans hcz
            clear hcz hb5
            go_wp2
            go_roundw
            case rel => exact ⟨j + 1, A6, n6, c6, by omega, by go_num, rfl, hbs5, hc6n.1, hc6n.2, hBq5⟩
            case measure => simp [intOf]; omega
          · obtain rfl : j = k := by omega
            have hn30 : n3 = 0 := by have := hbs3.out.len; rw [Nat.sub_self] at this; exact this.symm
            subst hn30
            go_wp2
            go_ret
            exact ⟨rfl, hb1.trans ((hB.trans (hBq.mono hsr)).mono hs1)⟩
      · have hnn : decide (k < 50) = false := decide_eq_false (by omega)
        have hnk : k < n := by omega
        go_wp2
        go_loopw [4, 6] (fun vb x wq => ∃ (j : Nat) (A2 : Option Addr) (n2 c2 : Nat), j ≤ k ∧ x = .int .i64 (j : Int) ∧ vb = .slice A2 n2 c2 ∧ Hid (Bs wq wq.heap.size A2 n2 (fI Z j (k - j))) ∧ n2 ≤ c2 ∧ c2 ≤ 9223372036854775807 ∧ Below w2.heap.size w2 wq) (fun _ x _ => k - (intOf x).toNat)
        case atStart => exact ⟨0, A2, n2, c2, by omega, rfl, rfl, Lib.hid hbs.out, hnc2, hcm2, Below.refl _ _⟩
        case round =>
          obtain ⟨j, A3, n3, c3, hj, rfl, rfl, hbs3, hnc3, hcm3, hBq⟩ := hrel
          by_cases hjlt : j < k
          · obtain ⟨b, off, rfl, hbB, hc⟩ := HS2.out (by omega)
            obtain ⟨z, hz⟩ : ∃ z, Hid (Z j = z) := ⟨_, Lib.hid rfl⟩
            have hcz : w2.cell? ⟨b, off + j, none⟩ = some (.int .i64 z) := by rw [← hz.out]; exact hc j (by omega)
            clear hc
            have hjn : j < n := by omega
            have hj50 : j < 50 := by omega
            have HG := Lib.hid (show getI (fI Z j (k - j)) = .ok (z, fI Z (j + 1) (k - (j + 1))) by
              rw [show k - j = (k - (j + 1)) + 1 by omega, fI, hz.out]
              exact getI_putI z _ (by rw [← hz.out]; exact hall.out j hjlt))
            have hn63 : n3 ≤ 9223372036854775807 := by omega
            go_wp2_with fail
            refine (getI_any A3 n3 c3 _ _ hn63 hnc3 hcm3 hbs3.out).mono ?_
            rintro e w5 ⟨rfl, hb5⟩
            rw [HG.out]
            simp only [gotI]
            have hlen5 := Lib.hid hbs3.out.len
            have hl5 : (fI Z (j + 1) (k - (j + 1))).length ≤ n3 := by
              rw [← hlen5.out, show k - j = (k - (j + 1)) + 1 by omega, fI, List.length_append]; omega
            have hbs5 : Bs w5 w5.heap.size (cutAt A3 c3 (n3 - (fI Z (j + 1) (k - (j + 1))).length) 1) (fI Z (j + 1) (k - (j + 1))).length (fI Z (j + 1) (k - (j + 1))) := by
              have h9 := (hbs3.out.now hb5).lo (k := n3 - (fI Z (j + 1) (k - (j + 1))).length) (cap := c3) (by omega) hnc3
              have e1 : (fI Z j (k - j)).drop (n3 - (fI Z (j + 1) (k - (j + 1))).length) = fI Z (j + 1) (k - (j + 1)) := by
                have hh := hlen5.out
                rw [show k - j = (k - (j + 1)) + 1 by omega, fI] at hh ⊢
                rw [List.length_append] at hh
                rw [show n3 - (fI Z (j + 1) (k - (j + 1))).length = (encU (encI (Z j))).length by omega, List.drop_left]
              have e2 : n3 - (n3 - (fI Z (j + 1) (k - (j + 1))).length) = (fI Z (j + 1) (k - (j + 1))).length := by omega
              rw [e1, e2] at h9
              exact h9
            have hbs5 := Lib.hid hbs5
            generalize cutAt A3 c3 (n3 - (fI Z (j + 1) (k - (j + 1))).length) 1 = A6 at hbs5 ⊢
            obtain ⟨c6, hc6⟩ : ∃ c6, c3 - (n3 - (fI Z (j + 1) (k - (j + 1))).length) = c6 := ⟨_, rfl⟩
            obtain ⟨n6, hn6⟩ : ∃ n6, (fI Z (j + 1) (k - (j + 1))).length = n6 := ⟨_, rfl⟩
            have hc6n : n6 ≤ c6 ∧ c6 ≤ 9223372036854775807 := by omega
            rw [hc6]
            rw [hn6] at hbs5 ⊢
            clear hc6 hn6 hl5
            have hBq5 := hBq.trans (hb5.mono hBq.size)
            have hx5 : w5.cell? ⟨b, off + j, none⟩ = some (.int .i64 z) := (hBq5.cell (p := ⟨b, off + j, none⟩) hbB).trans hcz
            clear hcz hb5
            go_wp2
            go_roundw
            case rel => exact ⟨j + 1, A6, n6, c6, by omega, by go_num, rfl, hbs5, hc6n.1, hc6n.2, hBq5⟩
            case measure => simp [intOf]; omega
          · obtain rfl : j = k := by omega
            have hn30 : n3 = 0 := by have := hbs3.out.len; rw [Nat.sub_self] at this; exact this.symm
            subst hn30
            go_wp2
            go_ret
            exact ⟨rfl, hb1.trans ((hB.trans (hBq.mono hsr)).mono hs1)⟩
end Go.Proofs.Ytkkbncgnobaliaa
