/-
  THE CODEC's WALKS: GetUint.
-/
import Derived.Test.YtkkbncgnobaliaaCod
namespace Go.Proofs.Ytkkbncgnobaliaa
open Go.RowKit
open CodP
set_option linter.unusedVariables false
/-- What GetUint hands back of a slice. -/
def gotU (A : Option Addr) (n cap : Nat) : Except Nat (Nat × List UInt8) → Array Value
  | .ok (m, r) => #[.int .i64 (m : Int), .slice (cutAt A cap (n - r.length) 1) r.length (cap - (n - r.length)), .int .i64 0]
  | .error c => #[.int .i64 0, .slice none 0 0, .int .i64 (c : Int)]
theorem pow128 (i : Nat) : (128 : Nat) ^ i = 2 ^ (7 * i) := by rw [Nat.pow_mul]
theorem i64_or_nat (a b : Nat) (ha : a < 9223372036854775808) (hb : b < 9223372036854775808) : bits .or .i64 (a : Int) (b : Int) = ((a ||| b : Nat) : Int) := by
  have h1 : ∀ M : Nat, M < 9223372036854775808 → (BitVec.ofInt 64 (M : Int)).toNat = M := fun M h => by
    rw [BitVec.ofInt_natCast, BitVec.toNat_ofNat]; exact Nat.mod_eq_of_lt (by omega)
  have h2 : a ||| b < 9223372036854775808 := Nat.or_lt_two_pow (n := 63) ha hb
  show IntKind.i64.wrap ((BitVec.ofInt 64 a ||| BitVec.ofInt 64 b).toNat : Int) = _
  rw [BitVec.toNat_or, h1 a ha, h1 b hb, IntKind.wrap_i64]
  omega
theorem or_step {acc x i : Nat} (hacc : acc < 128 ^ i) (hi : i ≤ 8) : bits .or .i64 (acc : Int) (wrap64 ((x : Int) % 128 * 2 ^ (7 * i))) = ((acc + x % 128 * 128 ^ i : Nat) : Int) ∧ acc + x % 128 * 128 ^ i < 128 ^ (i + 1) ∧ acc + x % 128 * 128 ^ i < 9223372036854775808 := by
  have hy : x % 128 < 128 := Nat.mod_lt _ (by omega)
  have e1 : (x : Int) % 128 = ((x % 128 : Nat) : Int) := by omega
  rw [e1]
  generalize x % 128 = y at hy
  have hP : (128 : Nat) ^ i ≤ 128 ^ 8 := Nat.pow_le_pow_right (by omega) hi
  have h8 : (128 : Nat) ^ 8 = 72057594037927936 := by simp
  rw [h8] at hP
  have hyP : y * 128 ^ i ≤ 127 * 128 ^ i := Nat.mul_le_mul_right _ (by omega)
  have hlt : acc + y * 128 ^ i < 128 ^ (i + 1) := by rw [Nat.pow_succ]; omega
  have hlt2 : acc + y * 128 ^ i < 9223372036854775808 := by omega
  refine ⟨?_, hlt, hlt2⟩
  have e2 : (y : Int) * 2 ^ (7 * i) = ((y * 128 ^ i : Nat) : Int) := by
    rw [pow128]
    simp
  rw [e2, wrap64, show (((y * 128 ^ i : Nat) : Int) + 9223372036854775808) % 18446744073709551616 - 9223372036854775808 = ((y * 128 ^ i : Nat) : Int) by omega, i64_or_nat _ _ (by omega) (by omega)]
  congr 1
  rw [pow128] at hacc ⊢
  have := Nat.shiftLeft_add_eq_or_of_lt hacc y
  rw [Nat.shiftLeft_eq] at this
  rw [Nat.or_comm, ← this, Nat.add_comm]
theorem sizeU8 : (Try.prog.info? 5).map (·.size) = some 1 := by kernel_rfl
theorem drop_get {l : List UInt8} {i : Nat} (h : i < l.length) : l.drop i = l.getD i 0 :: l.drop (i + 1) := by
  rw [List.drop_eq_getElem_cons h, List.getD_eq_getElem?_getD, List.getElem?_eq_getElem h]; rfl
theorem decU_step {f i acc : Nat} {x : UInt8} {xs : List UInt8} : decU (f + 1) i acc (x :: xs) = if 128 ≤ x.toNat then decU f (i + 1) (acc + x.toNat % 128 * 128 ^ i) xs
    else if 1152921504606846976 < acc + x.toNat % 128 * 128 ^ i then .error 2
    else if x.toNat = 0 ∧ 0 < i then .error 1
    else .ok (acc + x.toNat % 128 * 128 ^ i, xs) := rfl
theorem ret3 {a b : Array Value} (h : a = b) : Ending.returned (.tuple a) = .returned (.tuple b) := by rw [h]
set_option maxRecDepth 100000 in
set_option maxHeartbeats 1600000 in
theorem getU_any (A : Option Addr) (n cap : Nat) (l : List UInt8) (w : World) (hn : n ≤ 9223372036854775807) (hcn : n ≤ cap) (hcap : cap ≤ 9223372036854775807) (hb : Bs w w.heap.size A n l) :
    Calls Try.prog 35 #[.slice A n cap] w fun e w' => e = .returned (.tuple (gotU A n cap (getU l))) ∧ Below w.heap.size w w' := by
  have hHb := Lib.hid hb; clear hb
  have hln := Lib.hid hHb.out.len
  have hG := Lib.hid (show getU l = decU 9 0 0 l from rfl)
  go_enter Try.func35, Try.ntmps35
  go_wp2
  go_loop [5, 7] (fun x y => ∃ (i acc : Nat), i ≤ 9 ∧ i ≤ n ∧ y = .int .i64 i ∧ x = .int .i64 acc ∧ Hid (acc < 128 ^ i) ∧ Hid (getU l = decU (9 - i) i acc (l.drop i))) (fun _ y => 9 - (intOf y).toNat)
  case atStart => exact ⟨0, 0, by omega, by omega, rfl, rfl, Lib.hid (by simp), hG⟩
  case round =>
    obtain ⟨i, acc, hi9, hin, rfl, rfl, hacc, hgl⟩ := hrel
    by_cases hi : i < 9
    · by_cases hen : i = n
      · have hE := Lib.hid (show getU l = .error 3 by
          have h1 : l.drop i = [] := List.drop_of_length_le (by rw [hln.out]; omega)
          have h2 : 9 - i = (8 - i) + 1 := by omega
          rw [hgl.out, h1, h2]; rfl)
        have hen2 : ((i : Int) == (n : Int)) = true := by rw [hen]; simp
        have HEN := Lib.hid hen; clear hen
        go_wp2
        refine bodyPost_ret (v := .tuple #[.int .i64 0, .slice none 0 0, .int .i64 3]) (by simp [results, Try.results35, go_sem]) rfl ⟨?_, ?_⟩
        · rw [hE.out]; rfl
        · exact Below.refl _ _
      · have hlt : i < n := by omega
        have hen2 : ((i : Int) == (n : Int)) = false := beq_false_of_ne (by omega)
        obtain ⟨b, off, rfl, hbB, hx⟩ := hHb.out.at_ hlt
        have hx8 := (l.getD i 0).toNat_lt
        obtain ⟨hor, ha1, ha2⟩ := or_step (x := (l.getD i 0).toNat) hacc.out (show i ≤ 8 by omega)
        have hD := Lib.hid (show getU l = _ by
          have h2 : 9 - i = (8 - i) + 1 := by omega
          rw [hgl.out, drop_get (by rw [hln.out]; exact hlt), h2, decU_step])
        generalize (l.getD i 0).toNat = x at hx hx8 hor ha1 ha2 hD
        generalize acc + x % 128 * 128 ^ i = a2 at hor ha1 ha2 hD
        have HA1 := Lib.hid ha1; clear ha1
        have hxb : ∀ p : Bel w, p.now.cell? ⟨b, off + i, none⟩ = some (.int .u8 (x : Int)) := fun p => p.cell hbB hx
        by_cases h128 : 128 ≤ x
        · have HN := Lib.hid (show getU l = decU (9 - (i + 1)) (i + 1) a2 (l.drop (i + 1)) by
            rw [hD.out, if_pos h128, show 9 - (i + 1) = 8 - i by omega])
          have HX := Lib.hid hD.out
          clear hD
          go_wp2
          go_round
          case rel => exact ⟨i + 1, a2, by omega, by omega, by go_num, rfl, HA1, HN⟩
          case measure => simp [intOf]; omega
        · have d1 : decide (128 ≤ x) = false := decide_eq_false h128
          by_cases h60 : 1152921504606846976 < a2
          · have HN := Lib.hid (show getU l = .error 2 by rw [hD.out, if_neg h128, if_pos h60])
            clear hD
            go_wp2
            refine bodyPost_ret (v := .tuple #[.int .i64 0, .slice none 0 0, .int .i64 2]) (by simp [results, Try.results35, go_sem]) rfl ⟨?_, ?_⟩
            · rw [HN.out]; rfl
            · exact Below.refl _ _
          · have d2 : decide (1152921504606846976 < a2) = false := decide_eq_false h60
            by_cases h0 : x = 0 ∧ 0 < i
            · have HN := Lib.hid (show getU l = .error 1 by rw [hD.out, if_neg h128, if_neg h60, if_pos h0])
              clear hD
              have hz : ((x : Int) == 0) = true := by rw [h0.1]; rfl
              have hi0 : 0 < i := h0.2
              have H0 := Lib.hid h0; clear h0
              go_wp2
              refine bodyPost_ret (v := .tuple #[.int .i64 0, .slice none 0 0, .int .i64 1]) (by simp [results, Try.results35, go_sem]) rfl ⟨?_, ?_⟩
              · rw [HN.out]; rfl
              · exact Below.refl _ _
            · have HN := Lib.hid (show getU l = .ok (a2, l.drop (i + 1)) by rw [hD.out, if_neg h128, if_neg h60, if_neg h0])
              clear hD
              have r1 := run_cut_lo Try.underlying22 1 sizeU8 (some ⟨b, off, none⟩) n cap (i + 1) (by omega)
              have r2 : ∀ w, (Instr.slice 22 (.slice (some ⟨b, off, none⟩) n cap) (some (.int .i64 ((i : Int) + 1))) none none).run Try.prog w = .ok (.slice (cutAt (some ⟨b, off, none⟩) cap (i + 1) 1) (n - (i + 1)) (cap - (i + 1))) w := fun w => r1 w
              have hwi : IntKind.i64.wrap ((i : Int) + 1) = (i : Int) + 1 := by rw [IntKind.wrap_i64]; omega
              clear r1
              have HE := Lib.hid (show gotU (some ⟨b, off, none⟩) n cap (getU l) = #[.int .i64 (a2 : Int), .slice (cutAt (some ⟨b, off, none⟩) cap (i + 1) 1) (n - (i + 1)) (cap - (i + 1)), .int .i64 0] by
                rw [HN.out]
                have h1 : (l.drop (i + 1)).length = n - (i + 1) := by rw [List.length_drop, hln.out]
                simp only [gotU, h1, show n - (n - (i + 1)) = i + 1 by omega])
              generalize cutAt (some ⟨b, off, none⟩) cap (i + 1) 1 = A2 at r2 HE
              by_cases hx0 : x = 0
              · have hi0 : decide (0 < i) = false := decide_eq_false (fun h => h0 ⟨hx0, h⟩)
                have hz : ((x : Int) == 0) = true := by rw [hx0]; rfl
                have HX0 := Lib.hid hx0
                clear h0 hx0
                go_wp2_with fail
                refine wp_region_bel (by kernel_rfl) (by kernel_rfl) ?_
                repeat (
                  refine WQ.step (fun KK hKK => ?_)
                  go_simp
                  refine hKK _ ?_; clear hKK KK)
                refine WQ.nil_ ?_
                rintro wq1 ⟨⟨wq, hq⟩, hwq⟩
                obtain rfl : wq = wq1 := hwq.symm
                clear hwq
                go_wp2
                refine bodyPost_ret (v := .tuple #[.int .i64 (a2 : Int), .slice A2 (n - (i + 1)) (cap - (i + 1)), .int .i64 0]) (by simp [results, Try.results35, go_sem]) rfl ⟨?_, ?_⟩
                · exact ret3 HE.out.symm
                · exact hq
              · have hx1 : ((x : Int) == 0) = false := beq_false_of_ne (by omega)
                clear h0
                go_wp2_with fail
                refine wp_region_bel (by kernel_rfl) (by kernel_rfl) ?_
                repeat (
                  refine WQ.step (fun KK hKK => ?_)
                  go_simp
                  refine hKK _ ?_; clear hKK KK)
                refine WQ.nil_ ?_
                rintro wq1 ⟨⟨wq, hq⟩, hwq⟩
                obtain rfl : wq = wq1 := hwq.symm
                clear hwq
                go_wp2
                refine bodyPost_ret (v := .tuple #[.int .i64 (a2 : Int), .slice A2 (n - (i + 1)) (cap - (i + 1)), .int .i64 0]) (by simp [results, Try.results35, go_sem]) rfl ⟨?_, ?_⟩
                · exact ret3 HE.out.symm
                · exact hq
    · obtain rfl : i = 9 := by omega
      have hE := Lib.hid (show getU l = .error 2 by rw [hgl.out]; rfl)
      go_wp2
      refine bodyPost_ret (v := .tuple #[.int .i64 0, .slice none 0 0, .int .i64 2]) (by simp [results, Try.results35, go_sem]) rfl ⟨?_, ?_⟩
      · rw [hE.out]; rfl
      · exact Below.refl _ _
end Go.Proofs.Ytkkbncgnobaliaa
