/-
  queues: Put and Get.
-/
import Derived.Test.YtkkbncgnobaliaaQueV
import Derived.Test.YtkkbncgnobaliaaFrmG
import Derived.Test.YtkkbncgnobaliaaCodL4
import Derived.Deep.Cut
namespace Go.Proofs.Ytkkbncgnobaliaa
open Go.RowKit
open CodP
set_option linter.unusedVariables false
/-- A note's octets, within the frame. -/
def bodN (L : Lab) (f : Bool) (t : Int) : List UInt8 := labB L ++ encU (if f then 1 else 0) ++ encU t.toNat
/-- .. and with it. -/
noncomputable def putN (L : Lab) (f : Bool) (t : Int) : List UInt8 := if saneL L = true ∧ timeB t = true then putF [] (bodN L f t) else []
/-- What octets tell. -/
noncomputable def getN (l : List UInt8) : Except Nat (Lab × Bool × Nat) := match getF l with
  | .error c => .error c
  | .ok (p, r) => if 0 < r.length then .error 1 else match getL p with
    | .error c => .error c
    | .ok (L, s) => match getU s with
      | .error c => .error c
      | .ok (k, s2) => if 1 < k then .error 1 else match getU s2 with
        | .error c => .error c
        | .ok (a, u) => if timeB (a : Int) = true ∧ u.length = 0 then .ok (L, decide (k = 1), a) else .error 1
def GotN (w' : World) (e : Ending) : Except Nat (Lab × Bool × Nat) → Prop
  | .ok (L, f, t) => ∃ A n c, e = .returned (.tuple #[.slice A n c, .bool f, .int .i64 (t : Int), .int .i64 0]) ∧ Prs w' w'.heap.size A n L ∧ n ≤ c ∧ c ≤ 9223372036854775807
  | .error c => e = .returned (.tuple #[.slice none 0 0, .bool false, .int .i64 0, .int .i64 (c : Int)]) ∧ 1 ≤ c
theorem getU_err1 {l : List UInt8} {c : Nat} (h : getU l = .error c) : 1 ≤ c := by have := getU_err h; omega
theorem getF_err1 {l : List UInt8} {c : Nat} (h : getF l = .error c) : 1 ≤ c := by
  unfold getF at h
  cases hu : getU l with
  | error d => rw [hu] at h; simp at h; subst h; exact getU_err1 hu
  | ok q =>
    obtain ⟨n, r⟩ := q
    rw [hu] at h
    simp only at h
    split at h
    · injection h; omega
    · split at h
      · injection h; omega
      · split at h
        · cases h
        · injection h; omega
set_option maxRecDepth 100000 in
set_option maxHeartbeats 3200000 in
theorem qget_any (A : Option Addr) (n cap : Nat) (l : List UInt8) (w : World) (hn : n ≤ 9223372036854775807) (hcn : n ≤ cap) (hcap : cap ≤ 9223372036854775807) (hb : Bs w w.heap.size A n l) :
    Calls Try.prog 55 #[.slice A n cap] w fun e w' => GotN w' e (getN l) ∧ Below w.heap.size w w' := by
  obtain ⟨X, HX⟩ : ∃ X, Hid (getN l = X) := ⟨_, Lib.hid rfl⟩
  go_enter Try.func55, Try.ntmps55
  go_wp2_with fail
  refine (fget_at w.heap.size A n cap l _ (Nat.le_refl _) hn hcn hcap hb).mono ?_
  rintro e w1 ⟨hg1, hb1⟩
  cases hF : getF l with
  | error c =>
    rw [hF] at hg1
    obtain rfl := hg1
    have HE := Lib.hid (show getN l = .error c by unfold getN; rw [hF])
    have hc1 := getF_err1 hF
    have e0 : ((c : Int) != 0) = true := bne_iff_ne.2 (by omega)
    go_wp2
    refine bodyPost_ret (v := .tuple #[.slice none 0 0, .bool false, .int .i64 0, .int .i64 (c : Int)]) (by simp [results, Try.results55, go_sem]) rfl ⟨?_, hb1⟩
    rw [HE.out]
    exact ⟨rfl, hc1⟩
  | ok q =>
  obtain ⟨p, r⟩ := q
  rw [hF] at hg1
  obtain ⟨A1, n1, c1, A2, n2, c2, rfl, hp, hr, h1, h1', h2, h2'⟩ := hg1
  have hrl := hr.len
  by_cases hr0 : 0 < n2
  · have HE := Lib.hid (show getN l = .error 1 by unfold getN; rw [hF]; simp only; rw [if_pos (by omega)])
    clear hp hr
    go_wp2
    refine bodyPost_ret (v := .tuple #[.slice none 0 0, .bool false, .int .i64 0, .int .i64 1]) (by simp [results, Try.results55, go_sem]) rfl ⟨?_, hb1⟩
    rw [HE.out]
    exact ⟨rfl, Nat.le_refl _⟩
  have dr0 : decide (0 < n2) = false := decide_eq_false hr0
  have hp := Lib.hid (hp.more hb1.size)
  clear hr
  go_wp2_with fail
  refine (getL_at _ A1 n1 c1 p _ (Nat.le_refl _) (by omega) h1 h1' hp.out).mono ?_
  rintro e w2 ⟨hg2, hb2⟩
  have hB2 := hb1.trans (hb2.mono hb1.size)
  cases hL : getL p with
  | error c =>
    rw [hL] at hg2
    obtain ⟨rfl, hc1⟩ := hg2
    have HE := Lib.hid (show getN l = .error c by unfold getN; rw [hF]; simp only; rw [if_neg (by omega), hL])
    have e0 : ((c : Int) != 0) = true := bne_iff_ne.2 (by omega)
    go_wp2
    refine bodyPost_ret (v := .tuple #[.slice none 0 0, .bool false, .int .i64 0, .int .i64 (c : Int)]) (by simp [results, Try.results55, go_sem]) rfl ⟨?_, hB2⟩
    rw [HE.out]
    exact ⟨rfl, hc1⟩
  | ok q =>
  obtain ⟨L, s⟩ := q
  rw [hL] at hg2
  obtain ⟨A3, n3, c3, A4, n4, c4, rfl, hl, h3, h3', h16, hs, h4, h4'⟩ := hg2
  have hl := Lib.hid hl
  have hs := Lib.hid (hs.more hb2.size)
  clear hb2
  go_wp2_with fail
  refine (getU_at _ A4 n4 c4 s _ (Nat.le_refl _) (by omega) h4 h4' hs.out).mono ?_
  rintro e w3 ⟨hg3, hb3⟩
  have hB3 := hB2.trans (hb3.mono hB2.size)
  cases hU : getU s with
  | error c =>
    rw [hU] at hg3
    obtain rfl := hg3
    have hc1 := getU_err1 hU
    have HE := Lib.hid (show getN l = .error c by unfold getN; rw [hF]; simp only; rw [if_neg (by omega), hL]; simp only; rw [hU])
    have e0 : ((c : Int) != 0) = true := bne_iff_ne.2 (by omega)
    go_wp2
    refine bodyPost_ret (v := .tuple #[.slice none 0 0, .bool false, .int .i64 0, .int .i64 (c : Int)]) (by simp [results, Try.results55, go_sem]) rfl ⟨?_, hB3⟩
    rw [HE.out]
    exact ⟨rfl, hc1⟩
  | ok q =>
  obtain ⟨k, s2⟩ := q
  rw [hU] at hg3
  obtain ⟨A5, n5, c5, rfl, hs2, h5, h5'⟩ := hg3
  have hs2 := Lib.hid (hs2.more hb3.size)
  have hl := Lib.hid (hl.out.now hb3)
  have hk60 := Lib.hid (getU_ok hU).2
  clear hb3 hs
  by_cases hk1 : 1 < k
  · have HE := Lib.hid (show getN l = .error 1 by unfold getN; rw [hF]; simp only; rw [if_neg (by omega), hL]; simp only; rw [hU]; simp only; rw [if_pos hk1])
    go_wp2
    refine bodyPost_ret (v := .tuple #[.slice none 0 0, .bool false, .int .i64 0, .int .i64 1]) (by simp [results, Try.results55, go_sem]) rfl ⟨?_, hB3⟩
    rw [HE.out]
    exact ⟨rfl, Nat.le_refl _⟩
  have dk1 : decide (1 < k) = false := decide_eq_false hk1
  go_wp2_with fail
  refine (getU_at _ A5 n5 c5 s2 _ (Nat.le_refl _) (by omega) h5 h5' hs2.out).mono ?_
  rintro e w4 ⟨hg4, hb4⟩
  have hB4 := hB3.trans (hb4.mono hB3.size)
  cases hU2 : getU s2 with
  | error c =>
    rw [hU2] at hg4
    obtain rfl := hg4
    have hc1 := getU_err1 hU2
    have HE := Lib.hid (show getN l = .error c by unfold getN; rw [hF]; simp only; rw [if_neg (by omega), hL]; simp only; rw [hU]; simp only; rw [if_neg hk1, hU2])
    have e0 : ((c : Int) != 0) = true := bne_iff_ne.2 (by omega)
    go_wp2
    refine bodyPost_ret (v := .tuple #[.slice none 0 0, .bool false, .int .i64 0, .int .i64 (c : Int)]) (by simp [results, Try.results55, go_sem]) rfl ⟨?_, hB4⟩
    rw [HE.out]
    exact ⟨rfl, hc1⟩
  | ok q =>
  obtain ⟨a, u⟩ := q
  rw [hU2] at hg4
  obtain ⟨A6, n6, c6, rfl, hu, h6, h6'⟩ := hg4
  have hul := hu.len
  have hl := Lib.hid (hl.out.now hb4)
  have HEA := Lib.hid (show getN l = if timeB (a : Int) = true ∧ u.length = 0 then .ok (L, decide (k = 1), a) else .error 1 by unfold getN; rw [hF]; simp only; rw [if_neg (by omega), hL]; simp only; rw [hU]; simp only; rw [if_neg hk1, hU2])
  clear hb4 hu hs2
  go_wp2_with fail
  refine (time_any (a : Int) _).mono ?_
  rintro e w5 ⟨rfl, rfl⟩
  cases hta : timeB (a : Int)
  · have HE := Lib.hid (show getN l = .error 1 by rw [HEA.out, hta]; simp)
    go_wp2
    refine bodyPost_ret (v := .tuple #[.slice none 0 0, .bool false, .int .i64 0, .int .i64 1]) (by simp [results, Try.results55, go_sem]) rfl ⟨?_, hB4⟩
    rw [HE.out]
    exact ⟨rfl, Nat.le_refl _⟩
  by_cases hu0 : 0 < n6
  · have HE := Lib.hid (show getN l = .error 1 by rw [HEA.out, if_neg (by omega)])
    go_wp2
    refine bodyPost_ret (v := .tuple #[.slice none 0 0, .bool false, .int .i64 0, .int .i64 1]) (by simp [results, Try.results55, go_sem]) rfl ⟨?_, hB4⟩
    rw [HE.out]
    exact ⟨rfl, Nat.le_refl _⟩
  have du0 : decide (0 < n6) = false := decide_eq_false hu0
  have HE := Lib.hid (show getN l = .ok (L, decide (k = 1), a) by rw [HEA.out, hta, if_pos ⟨rfl, by omega⟩])
  go_wp2
  have ek : ((k : Int) == 1) = decide (k = 1) := by rw [Bool.eq_iff_iff]; simp; omega
  refine bodyPost_ret (v := .tuple #[.slice A3 n3 c3, .bool (decide (k = 1)), .int .i64 (a : Int), .int .i64 0]) (by simp [results, Try.results55, go_sem, ek]) rfl ⟨?_, hB4⟩
  rw [HE.out]
  exact ⟨A3, n3, c3, rfl, hl.out, h3, h3'⟩
theorem bod_len (L : Lab) (f : Bool) (t : Int) (h : saneL L = true) (ht : timeB t = true) : (bodN L f t).length ≤ 4000 := by
  unfold bodN
  have h1 := labB_len L h
  have h2 := encU_length_le 8 (if f then 1 else 0) (pow_le _ (by split <;> omega))
  have h3 := encU_length_le 8 t.toNat (pow_le _ (by have := timeB_iff.1 ht; omega))
  simp only [List.length_append]
  omega
set_option maxRecDepth 100000 in
set_option maxHeartbeats 3200000 in
theorem qput_any (y : Nt) (w : World) (hy : Rn w w.heap.size y) :
    Calls Try.prog 56 #[y.val] w fun e w' => (∃ v, e = .returned v ∧ OwnB w' w.heap.size 5 v (putN y.L y.f y.t)) ∧ Below w.heap.size w w' := by
  obtain ⟨A, n, c, L, f, t, k, x⟩ := y
  have HY := Lib.hid hy; clear hy
  have hn : n ≤ 9223372036854775807 := by have := HY.out.cap; simp at this; omega
  have hnc : n ≤ c ∧ c ≤ 9223372036854775807 := HY.out.cap
  simp only [Nt.val]
  have b0 := Blk.new w 80 #[.slice A n c, .bool f, .int .i64 t, .int .i64 k, .int .i64 x]
  have hB0 : Below w.heap.size w (w.alloc (.cells #[.slice A n c, .bool f, .int .i64 t, .int .i64 k, .int .i64 x] 80)) := (Below.refl _ _).alloc (Nat.le_refl _) _
  go_enter Try.func56, Try.ntmps56
  go_wp2_with fail
  refine (lsane_any A n c L _ hn (HY.out.prs.now hB0)).mono ?_
  rintro e w1 ⟨rfl, hb1⟩
  have b1 := b0.below hb1 (by simp)
  have hB1 := hB0.trans (hb1.mono hB0.size)
  have x0 : w1.cell? ⟨w.heap.size, 0, none⟩ = some (.slice A n c) := b1.cell 0
  have x1 : w1.cell? ⟨w.heap.size, 1, none⟩ = some (.bool f) := b1.cell 1
  have x2 : w1.cell? ⟨w.heap.size, 2, none⟩ = some (.int .i64 t) := b1.cell 2
  clear hb1 b0 hB0
  cases hs : saneL L
  · have HE := Lib.hid (show putN L f t = [] by unfold putN; rw [hs]; simp)
    go_wp2
    go_ret
    exact ⟨⟨_, rfl, by rw [HE.out]; exact OwnB.nil_ _ _ _⟩, hB1⟩
  have HS := Lib.hid hs
  clear hs
  go_wp2_with fail
  refine (time_any t _).mono ?_
  rintro e w2 ⟨rfl, rfl⟩
  cases ht : timeB t
  · have HE := Lib.hid (show putN L f t = [] by unfold putN; rw [ht]; simp)
    go_wp2
    go_ret
    exact ⟨⟨_, rfl, by rw [HE.out]; exact OwnB.nil_ _ _ _⟩, hB1⟩
  have ht2 := timeB_iff.1 ht
  obtain ⟨u, rfl⟩ := Int.eq_ofNat_of_zero_le ht2.1
  have hu : u ≤ 9007199254740992 := by omega
  have HE := Lib.hid (show putN L f (u : Int) = putF [] (bodN L f (u : Int)) by unfold putN; rw [HS.out, ht]; simp)
  have HBL := Lib.hid (bod_len L f (u : Int) HS.out ht)
  have hLL := Lib.hid (labB_len L HS.out)
  clear ht ht2
  have hsz1 : w.heap.size < w2.heap.size := b1.lt
  cases f
  case false =>
    have hll := Lib.hid (show bodN L false (u : Int) = labB L ++ encU 0 ++ encU u from rfl)
    go_wp2_with fail
    refine (putL_any none 0 0 [] A n c L _ (by omega) (Nat.le_refl _) (.inl ⟨rfl, rfl, rfl⟩) hn (Bs.nil_ _ _ _) (HY.out.prs.now hB1)).mono ?_
    rintro e w3 ⟨⟨v3, rfl, hown3⟩, hb3⟩
    rw [show okLab L = L by unfold okLab; rw [HS.out]; rfl, List.nil_append] at hown3
    obtain ⟨A3, n3, c3, rfl, hs3, hc3, hm3⟩ := hown3.bs
    have hl3 := hs3.len
    have hs3 := Lib.hid hs3
    have hn3 : n3 ≤ 4000 := by have := hLL.out; omega
    have hx2 := (hb3.cell (p := ⟨w.heap.size, 2, none⟩) hsz1).trans x2
    have hB3 := hB1.trans (hb3.mono hB1.size)
    have hsz3 := hb3.size
    clear hb3 hown3 hl3 hm3 x0 x1 x2
    go_wp2_with fail
    refine (putU_any A3 n3 c3 (labB L) (0 : Int) _ (by omega) hs3.out).mono ?_
    rintro e w4 ⟨⟨v4, rfl, hown4⟩, hb4⟩
    rw [show putU (labB L) (0 : Int) = labB L ++ encU 0 by unfold putU; rw [if_pos ⟨by omega, by omega⟩]; rfl] at hown4
    obtain ⟨A4, n4, c4, rfl, hs4, hc4, hm4⟩ := hown4.bs
    have hl4 := hs4.len
    have hs4 := Lib.hid hs4
    have hn4 : n4 ≤ 4010 := by have := hLL.out; have := encU_length_le 8 0 (pow_le _ (by omega)); simp only [List.length_append] at hl4; omega
    have hy2 := (hb4.cell (p := ⟨w.heap.size, 2, none⟩) (by show w.heap.size < _; omega)).trans hx2
    have hB4 := hB3.trans (hb4.mono hB3.size)
    clear hb4 hown4 hl4 hm4 hx2 hs3
    go_wp2_with fail
    refine (putU_any A4 n4 c4 (labB L ++ encU 0) (u : Int) _ (by omega) hs4.out).mono ?_
    rintro e w5 ⟨⟨v5, rfl, hown5⟩, hb5⟩
    rw [show putU (labB L ++ encU 0) (u : Int) = bodN L false (u : Int) by rw [hll.out]; unfold putU; rw [if_pos ⟨by omega, by omega⟩]; rfl] at hown5
    obtain ⟨A5, n5, c5, rfl, hs5, hc5, hm5⟩ := hown5.bs
    have hl5 := hs5.len
    have hs5 := Lib.hid hs5
    have hn5 : n5 ≤ 4000 := by have := HBL.out; omega
    have hB5 := hB4.trans (hb5.mono hB4.size)
    clear hb5 hown5 hl5 hm5 hy2 hs4
    go_wp2_with fail
    refine (fput_any none 0 0 [] A5 n5 c5 (bodN L false (u : Int)) _ (by omega) (by omega) (Bs.nil_ _ _ _) hs5.out).mono ?_
    rintro e w6 ⟨⟨v6, rfl, hown6⟩, hb6⟩
    have hB6 := hB5.trans (hb6.mono hB5.size)
    have hO := Lib.hid (hown6.less hB5.size)
    clear hown6 hb6 hs5
    go_wp2
    go_ret
    exact ⟨⟨_, rfl, by rw [HE.out]; exact hO.out⟩, hB6⟩
  case true =>
    have hll := Lib.hid (show bodN L true (u : Int) = labB L ++ encU 1 ++ encU u from rfl)
    go_wp2_with fail
    refine (putL_any none 0 0 [] A n c L _ (by omega) (Nat.le_refl _) (.inl ⟨rfl, rfl, rfl⟩) hn (Bs.nil_ _ _ _) (HY.out.prs.now hB1)).mono ?_
    rintro e w3 ⟨⟨v3, rfl, hown3⟩, hb3⟩
    rw [show okLab L = L by unfold okLab; rw [HS.out]; rfl, List.nil_append] at hown3
    obtain ⟨A3, n3, c3, rfl, hs3, hc3, hm3⟩ := hown3.bs
    have hl3 := hs3.len
    have hs3 := Lib.hid hs3
    have hn3 : n3 ≤ 4000 := by have := hLL.out; omega
    have hx2 := (hb3.cell (p := ⟨w.heap.size, 2, none⟩) hsz1).trans x2
    have hB3 := hB1.trans (hb3.mono hB1.size)
    have hsz3 := hb3.size
    clear hb3 hown3 hl3 hm3 x0 x1 x2
    go_wp2_with fail
    refine (putU_any A3 n3 c3 (labB L) (1 : Int) _ (by omega) hs3.out).mono ?_
    rintro e w4 ⟨⟨v4, rfl, hown4⟩, hb4⟩
    rw [show putU (labB L) (1 : Int) = labB L ++ encU 1 by unfold putU; rw [if_pos ⟨by omega, by omega⟩]; rfl] at hown4
    obtain ⟨A4, n4, c4, rfl, hs4, hc4, hm4⟩ := hown4.bs
    have hl4 := hs4.len
    have hs4 := Lib.hid hs4
    have hn4 : n4 ≤ 4010 := by have := hLL.out; have := encU_length_le 8 1 (pow_le _ (by omega)); simp only [List.length_append] at hl4; omega
    have hy2 := (hb4.cell (p := ⟨w.heap.size, 2, none⟩) (by show w.heap.size < _; omega)).trans hx2
    have hB4 := hB3.trans (hb4.mono hB3.size)
    clear hb4 hown4 hl4 hm4 hx2 hs3
    go_wp2_with fail
    refine (putU_any A4 n4 c4 (labB L ++ encU 1) (u : Int) _ (by omega) hs4.out).mono ?_
    rintro e w5 ⟨⟨v5, rfl, hown5⟩, hb5⟩
    rw [show putU (labB L ++ encU 1) (u : Int) = bodN L true (u : Int) by rw [hll.out]; unfold putU; rw [if_pos ⟨by omega, by omega⟩]; rfl] at hown5
    obtain ⟨A5, n5, c5, rfl, hs5, hc5, hm5⟩ := hown5.bs
    have hl5 := hs5.len
    have hs5 := Lib.hid hs5
    have hn5 : n5 ≤ 4000 := by have := HBL.out; omega
    have hB5 := hB4.trans (hb5.mono hB4.size)
    clear hb5 hown5 hl5 hm5 hy2 hs4
    go_wp2_with fail
    refine (fput_any none 0 0 [] A5 n5 c5 (bodN L true (u : Int)) _ (by omega) (by omega) (Bs.nil_ _ _ _) hs5.out).mono ?_
    rintro e w6 ⟨⟨v6, rfl, hown6⟩, hb6⟩
    have hB6 := hB5.trans (hb6.mono hB5.size)
    have hO := Lib.hid (hown6.less hB5.size)
    clear hown6 hb6 hs5
    go_wp2
    go_ret
    exact ⟨⟨_, rfl, by rw [HE.out]; exact hO.out⟩, hB6⟩
end Go.Proofs.Ytkkbncgnobaliaa
