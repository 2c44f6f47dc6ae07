/-
  codec: labels got.
-/
import Derived.Test.YtkkbncgnobaliaaCodR
import Derived.Deep.Cut
namespace Go.Proofs.Ytkkbncgnobaliaa
open Go.RowKit
open CodP
set_option linter.unusedVariables false
def pr2 (q : ByteArray × ByteArray) : Value × Value := (.string q.1, .string q.2)
def loopL : Nat → List UInt8 → Lab → Except Nat (Lab × List UInt8)
  | 0, r, ps => .ok (ps, r)
  | k + 1, r, ps => match getT r with
    | .error c => .error c
    | .ok (a, r1) => match getT r1 with
      | .error c => .error c
      | .ok (b, r2) => loopL k r2 (ps ++ [(⟨a.toArray⟩, ⟨b.toArray⟩)])
/-- The labels that stand first, and the rest. -/
noncomputable def getL (l : List UInt8) : Except Nat (Lab × List UInt8) := match getU l with
  | .error c => .error c
  | .ok (n, r) => if 16 < n then .error 4 else match loopL n r [] with
    | .error c => .error c
    | .ok (ps, r2) => if saneL ps = true then .ok (ps, r2) else .error 1
def small2 (ps : Lab) : Prop := ∀ q ∈ ps, q.1.size ≤ 65536 ∧ q.2.size ≤ 65536
theorem Own2.prs {w : World} {base e : Nat} {v : Value} {ps : Lab} (h : Own2 w base e pr2 v ps) (hs : small2 ps) : ∃ A n cap, v = .slice A n cap ∧ n = ps.length ∧ Prs w w.heap.size A n ps ∧ n ≤ cap ∧ cap ≤ maxLen := by
  obtain ⟨A, n, cap, rfl, hn, hq, hc, hm⟩ := h.q2
  refine ⟨A, n, cap, rfl, hn, ⟨hn.symm, hq.congr (fun i hi => ?_) (fun i hi => ?_), fun i hi => ?_⟩, hc, hm⟩
  · rw [List.getElem?_eq_getElem (by omega)]
    have := nm_at (L := ps) (i := i) (by omega)
    simp [pr2, ← this]
  · rw [List.getElem?_eq_getElem (by omega)]
    have := nm_at (L := ps) (i := i) (by omega)
    simp [pr2, ← this]
  · have := nm_at (L := ps) (i := i) (by omega)
    have h2 := hs _ (List.getElem_mem (by omega : i < ps.length))
    rw [← this] at h2
    simp only at h2
    omega
theorem getT_small {l t r : List UInt8} (h : getT l = .ok (t, r)) : t.length ≤ 65536 := by
  unfold getT at h
  cases hu : getU l with
  | error c' => rw [hu] at h; cases h
  | ok q =>
    rw [hu] at h
    obtain ⟨n, r'⟩ := q
    simp only at h
    by_cases h1 : 65536 < n
    · rw [if_pos h1] at h; cases h
    · rw [if_neg h1] at h
      by_cases h2 : r'.length < n
      · rw [if_pos h2] at h; cases h
      · rw [if_neg h2] at h
        simp at h
        rw [← h.1, List.length_take]; omega
theorem gotS_small (st : Except Nat (List UInt8)) : (⟨(gotS st).1.toArray⟩ : ByteArray).size ≤ 65536 := by
  show (gotS st).1.toArray.size ≤ 65536
  rw [List.size_toArray]
  cases st with
  | error c => simp [gotS]
  | ok l =>
    cases ht : getT l with
    | error c => simp [gotS, ht]
    | ok q => obtain ⟨t, r⟩ := q; simp only [gotS, ht]; exact getT_small ht
/-- Where the loop stands: what is left tells what comes of it. -/
def LpAt (N : Nat) (X : Except Nat (Lab × List UInt8)) (ps : Lab) : Except Nat (List UInt8) → Prop
  | .error c => X = .error c
  | .ok r => ps.length ≤ N ∧ loopL (N - ps.length) r ps = X
theorem LpAt.step {N : Nat} {X : Except Nat (Lab × List UInt8)} {ps : Lab} {r : List UInt8} (h : LpAt N X ps (.ok r)) (hlt : ps.length < N) :
    LpAt N X (ps ++ [(⟨(gotS (.ok r)).1.toArray⟩, ⟨(gotS (gotS (.ok r)).2).1.toArray⟩)]) (gotS (gotS (.ok r)).2).2 := by
  obtain ⟨h1, h2⟩ := h
  obtain ⟨k, hk⟩ : ∃ k, N - ps.length = k + 1 := ⟨N - ps.length - 1, by omega⟩
  rw [hk] at h2
  unfold loopL at h2
  cases ha : getT r with
  | error c => rw [ha] at h2; simp only [gotS, ha]; exact h2.symm
  | ok q =>
    obtain ⟨a, r1⟩ := q
    rw [ha] at h2
    simp only at h2
    simp only [gotS, ha]
    cases hb : getT r1 with
    | error c => rw [hb] at h2; exact h2.symm
    | ok q2 =>
      obtain ⟨b, r2⟩ := q2
      rw [hb] at h2
      simp only at h2
      refine ⟨by simp; omega, ?_⟩
      rw [List.length_append, List.length_singleton, show N - (ps.length + 1) = k by omega]
      exact h2
noncomputable def finL : Except Nat (Lab × List UInt8) → Except Nat (Lab × List UInt8)
  | .error c => .error c
  | .ok (ps, r2) => if saneL ps = true then .ok (ps, r2) else .error 1
noncomputable def preL (l : List UInt8) : Except Nat (Lab × List UInt8) := match getU l with
  | .error c => .error c
  | .ok (n, r) => if 16 < n then .error 4 else loopL n r []
theorem getL_pre (l : List UInt8) : getL l = finL (preL l) := by
  unfold getL preL
  cases getU l with
  | error c => rfl
  | ok q =>
    obtain ⟨n, r⟩ := q
    simp only
    by_cases h : 16 < n
    · rw [if_pos h, if_pos h]; rfl
    · rw [if_neg h, if_neg h]
      cases loopL n r [] with
      | error c => rfl
      | ok q2 => rfl
/-- what GetLabels answers -/
def GotL (w' : World) (B : Nat) (e : Ending) : Except Nat (Lab × List UInt8) → Prop
  | .ok (ps, r) => ∃ A1 n1 c1 A2 n2 c2, e = .returned (.tuple #[.slice A1 n1 c1, .slice A2 n2 c2, .int .i64 0]) ∧ Prs w' w'.heap.size A1 n1 ps ∧ n1 ≤ c1 ∧ c1 ≤ 9223372036854775807 ∧ n1 ≤ 16 ∧ Bs w' B A2 n2 r ∧ n2 ≤ c2 ∧ c2 ≤ 9223372036854775807
  | .error c => e = .returned (.tuple #[.slice none 0 0, .slice none 0 0, .int .i64 (c : Int)]) ∧ 1 ≤ c
theorem Bs.alloc' {w : World} {B n : Nat} {A : Option Addr} {l : List UInt8} (h : Bs w B A n l) (hB : B ≤ w.heap.size) (o : Obj) : Bs (w.alloc o) B A n l := ⟨h.len, h.sl.alloc hB o⟩
def sliceLen : Value → Nat
  | .slice _ n _ => n
  | _ => 0
theorem Own2.sliceLen {α : Type} {w : World} {base e : Nat} {f : α → Value × Value} {v : Value} {l : List α} (h : Own2 w base e f v l) : Proofs.Ytkkbncgnobaliaa.sliceLen v = l.length := by
  rcases h.form with ⟨rfl, rfl⟩ | ⟨g, cap, rfl, _⟩ <;> rfl
theorem infoPr : (Try.prog.info? 100).map (fun i => (i.zero, i.size, i.bytes)) = some (some (.agg #[.string ⟨#[]⟩, .string ⟨#[]⟩]), 2, 32) := by kernel_rfl
theorem Rd.alloc {w : World} {g B : Nat} {st : Except Nat (List UInt8)} (h : Rd w g B st) (hB : B ≤ w.heap.size) (o : Obj) : Rd (w.alloc o) g B st := by
  cases st with
  | error c => exact ⟨h.1, _, h.2.choose_spec.alloc o⟩
  | ok l => obtain ⟨A, n, c, h1, h2, h3⟩ := h; exact ⟨A, n, c, h1.alloc o, h2.alloc' hB o, h3⟩
theorem Rd.grown {w w' : World} {g B : Nat} {st : Except Nat (List UInt8)} {row : Option Nat} (h : Rd w g B st) (hg : w.grownBy w' row) (hne : some g ≠ row) (hr : ∀ k, row = some k → B ≤ k) (hB : B ≤ w.heap.size) : Rd w' g B st := by
  cases st with
  | error c => exact ⟨h.1, _, h.2.choose_spec.grown hg hne⟩
  | ok l => obtain ⟨A, n, c, h1, h2, h3⟩ := h; exact ⟨A, n, c, h1.grown hg hne, ⟨h2.len, h2.sl.grown hg hB hr⟩, h3⟩
theorem Rd.below {w w' : World} {g B : Nat} {st : Except Nat (List UInt8)} (h : Rd w g B st) (hB : B ≤ w.heap.size) (hb : Below w.heap.size w w') : Rd w' g B st :=
  h.grown (grown_below hb none) (by simp) (fun k e => by cases e) hB
theorem below_grown {w w1 w2 : World} {row : Option Nat} (h : Below w.heap.size w w1) (hg : w1.grownBy w2 row) (hr : ∀ k, row = some k → w.heap.size ≤ k) : Below w.heap.size w w2 := h.grown hg h.size hr
set_option maxRecDepth 100000 in
set_option maxHeartbeats 12800000 in
theorem getL_at (B : Nat) (A : Option Addr) (n cap : Nat) (l : List UInt8) (w : World) (hBw : B ≤ w.heap.size) (hn : n ≤ 9223372036854775807) (hcn : n ≤ cap) (hcap : cap ≤ 9223372036854775807) (hb : Bs w B A n l) :
    Calls Try.prog 38 #[.slice A n cap] w fun e w' => GotL w' B e (getL l) ∧ Below w.heap.size w w' := by
  have HB := Lib.hid hb; clear hb
  obtain ⟨g, HG⟩ : ∃ g, Hid (g = w.heap.size) := ⟨_, Lib.hid rfl⟩
  have hBst : Bs (w.alloc (.cells #[.slice A n cap, .int .i64 0] 103)) B A n l := HB.out.alloc' hBw _
  have hBst := Lib.hid hBst
  go_enter Try.func38, Try.ntmps38
  go_wp2_with fail
  refine (gotN_any w.heap.size B (.ok l) _ hBw ⟨A, n, cap, ?_, hBst.out, hcn, hcap⟩).mono ?_
  · exact (Blk.new w _ _)
  rintro e w1 ⟨rfl, hrd, hgr⟩
  have hB1 : Below w.heap.size w w1 := (((Below.refl w.heap.size w).alloc (Nat.le_refl _) _)).grown hgr (by simp) (fun k e => by cases e; exact Nat.le_refl _)
  obtain ⟨N, HN⟩ : ∃ N : Nat, Hid ((gotN (.ok l)).1 = N) := ⟨_, Lib.hid rfl⟩
  rw [HN.out]
  obtain ⟨X, HX0⟩ : ∃ X, Hid (preL l = X) := ⟨_, Lib.hid rfl⟩
  have HX := Lib.hid (show getL l = finL X by rw [← HX0.out]; exact getL_pre l)
  obtain ⟨st1, HST1⟩ : ∃ st, Hid ((gotN (.ok l)).2 = st) := ⟨_, Lib.hid rfl⟩
  rw [HST1.out] at hrd
  have hcase := Lib.hid (show (∃ c, st1 = .error c ∧ 1 ≤ c ∧ N = 0 ∧ X = .error c) ∨ ∃ r, st1 = .ok r ∧ X = if 16 < N then .error 4 else loopL N r [] by
    rw [← HST1.out, ← HX0.out, ← HN.out]
    unfold preL
    cases hu : getU l with
    | error c => exact .inl ⟨c, by simp only [gotN, hu], by have := getU_err hu; omega, by simp only [gotN, hu], rfl⟩
    | ok q => obtain ⟨u, r⟩ := q; exact .inr ⟨r, by simp only [gotN, hu], by simp only [gotN, hu]⟩)
  have HRD := Lib.hid hrd; clear hrd hgr
  go_upto_region 3 with (fail)
  go_cut [19] from 13 (fun s wr => s = .bool (decide (16 < N)) ∧ wr = w1)
  case first =>
    obtain ⟨v0, c, hblk⟩ := HRD.out.blk
    have e0 := hblk.cell 1
    by_cases hc0 : c = 0
    · obtain rfl := hc0
      clear hblk
      go_wp2
      go_meet
      case rel => exact ⟨by simp; omega, rfl⟩
    · have d : ((c : Int) == 0) = false := beq_eq_false_iff_ne.2 (by omega)
      have h16 : decide (16 < N) = false := by
        rcases hcase.out with ⟨c', -, -, rfl, -⟩ | ⟨r, rfl, -⟩
        · rfl
        · exfalso
          obtain ⟨A0, n0, c0, hb0, -⟩ := HRD.out
          have := hblk.cell 1
          rw [hb0.cell 1] at this
          simp at this
          omega
      clear hblk
      go_wp2
      go_meet
      case rel => exact ⟨by rw [h16], rfl⟩
  obtain ⟨rfl, rfl⟩ := hcut
  go_upto_if 19 with (fail)
  go_cut [] from 12 (fun wr => ∃ (st : Except Nat (List UInt8)), Hid (Rd wr w.heap.size B st) ∧ Hid (LpAt N X [] st) ∧ Hid (∀ r, st = .ok r → N ≤ 16) ∧ Below w.heap.size w wr)
  case first =>
    by_cases h16 : 16 < N
    · obtain ⟨v0, c, hblk⟩ := HRD.out.blk
      have HX1 := Lib.hid (show X = .error 4 by
        rcases hcase.out with ⟨c', -, -, hN0, -⟩ | ⟨r, -, hX⟩
        · omega
        · rw [hX, if_pos h16])
      have f0 := hblk.frozen 1
      have hl0 := hblk.lt
      have e0 := hblk.cell 1
      have HBLK := Lib.hid hblk
      clear hblk
      go_wp2
      go_meet
      case rel => exact ⟨.error 4, Lib.hid ⟨by omega, _, HBLK.out.put 1 _⟩, Lib.hid HX1.out, Lib.hid (fun r h => by cases h), hB1.setCell (by exact Nat.le_refl _) _⟩
    · have d16 : decide (16 < N) = false := decide_eq_false h16
      have hlp1 := Lib.hid (show LpAt N X [] st1 by
        rcases hcase.out with ⟨c', rfl, -, -, hX⟩ | ⟨r, rfl, hX⟩
        · exact hX
        · rw [if_neg h16] at hX; exact ⟨by simp, hX.symm⟩)
      go_wp2
      go_meet
      case rel => exact ⟨st1, HRD, hlp1, Lib.hid (fun r h => by omega), hB1⟩
  case rest =>
    obtain ⟨st0, hrd0, hlp0, hNok0, hB0⟩ := hcut
    clear hB1
    go_wp2
    go_loopw [7, 8, 9] (fun v a b wr => ∃ (ps : Lab) (st : Except Nat (List UInt8)), Hid (Own2 wr (w.heap.size + 1) 100 pr2 v ps) ∧ Hid (small2 ps) ∧ Hid (Rd wr w.heap.size B st) ∧ Hid (LpAt N X ps st) ∧ Hid (∀ r, st = .ok r → N ≤ 16) ∧ ps.length ≤ 16 ∧ Below w.heap.size w wr) (fun v _ _ _ => N - sliceLen v)
    case atStart => exact ⟨[], st0, Lib.hid (Own2.nil_ _ _ _ _), Lib.hid (fun q hq => by cases hq), hrd0, hlp0, hNok0, by simp, hB0⟩
    case round =>
      obtain ⟨ps, st, hown, hsm, hrd, hlp, hNok, h16, hB⟩ := hrel
      have hgB : B ≤ w.heap.size := hBw
      have hgr0 : w.heap.size < wr.heap.size := hrd.out.lt
      obtain ⟨A1, n1, c1, rfl, hn1, hps, hnc1, hcm1⟩ := hown.out.prs hsm.out
      have hps := Lib.hid hps
      have HN1' := Lib.hid hn1
      clear hn1
      have hcm1' : c1 ≤ 9223372036854775807 := by unfold maxLen at hcm1; omega
      cases st with
      | error c =>
        obtain ⟨hc1, v0, hblk⟩ := hrd.out
        have HE := Lib.hid (show getL l = .error c by rw [HX.out, show X = .error c from hlp.out]; rfl)
        have e0 := hblk.cell 1
        have e1 : ∀ p : Bel wr, p.now.cell? ⟨w.heap.size, 1, none⟩ = some (.int .i64 (c : Int)) := fun p => (p.blk hblk).cell 1
        have d : ((c : Int) == 0) = false := beq_eq_false_iff_ne.2 (by omega)
        have d' : ((c : Int) != 0) = true := bne_iff_ne.2 (by omega)
        clear hblk hown hsm hrd hlp hps
        go_wp2_with fail
        refine wp_region_bel (by kernel_rfl) (by kernel_rfl) ?_
        repeat (
          refine WQ.step (fun KK hKK => ?_)
          go_simp
          refine hKK _ ?_; clear hKK KK)
        refine WQ.nil_ ?_
        rintro wq1 ⟨⟨wq, hq⟩, hwq⟩
        obtain rfl : wq = wq1 := hwq.symm
        clear hwq
        go_wp2
        refine bodyPost_ret (v := .tuple #[.slice none 0 0, .slice none 0 0, .int .i64 (c : Int)]) (by simp [results, Try.results38, go_sem]) rfl ?_
        exact ⟨by rw [HE.out]; exact ⟨rfl, hc1⟩, hB.trans (hq.mono hB.size)⟩
      | ok r =>
        obtain ⟨A2, n2, c2, hblk, hbs, hnc2, hcm2⟩ := hrd.out
        have e0 := hblk.cell 1
        have e00 := hblk.cell 0
        have f1 := hblk.frozen 1
        by_cases hlt : n1 < N
        · have hN16 : N ≤ 16 := hNok.out _ rfl
          have hstep := Lib.hid (hlp.out.step (by have := HN1'.out; omega))
          have HS1 := Lib.hid (gotS_small (.ok r))
          have HS2 := Lib.hid (gotS_small (gotS (.ok r)).2)
          obtain ⟨st1, HT1⟩ : ∃ x, Hid ((gotS (.ok r)).2 = x) := ⟨_, Lib.hid rfl⟩
          obtain ⟨s1, HN1⟩ : ∃ x, Hid ((⟨(gotS (.ok r)).1.toArray⟩ : ByteArray) = x) := ⟨_, Lib.hid rfl⟩
          obtain ⟨st2, HT2⟩ : ∃ x, Hid ((gotS st1).2 = x) := ⟨_, Lib.hid rfl⟩
          obtain ⟨s2, HN2⟩ : ∃ x, Hid ((⟨(gotS st1).1.toArray⟩ : ByteArray) = x) := ⟨_, Lib.hid rfl⟩
          have HS1 := Lib.hid (show s1.size ≤ 65536 by rw [← HN1.out]; exact HS1.out)
          have HS2 := Lib.hid (show s2.size ≤ 65536 by rw [← HN2.out, ← HT1.out]; exact HS2.out)
          have hstep := Lib.hid (show LpAt N X (ps ++ [(s1, s2)]) st2 by have := hstep.out; rw [HT1.out, HN1.out, HT2.out, HN2.out] at this; exact this)
          clear hblk hbs hps
          have hlen1 := HN1'.out
          have hlen2 : ps.length < N := by omega
          clear hlen1
          go_wp2_with fail
          refine (gotS_any w.heap.size B (.ok r) wr hBw hrd.out).mono ?_
          rintro e wa ⟨rfl, hrda, hgra⟩
          rw [HN1.out]
          rw [HT1.out] at hrda
          go_wp2_with fail
          refine (gotS_any w.heap.size B st1 wa hBw hrda).mono ?_
          rintro e wb ⟨rfl, hrdb, hgrb⟩
          rw [HN2.out]
          rw [HT2.out] at hrdb
          have hgab := hgra.trans hgrb
          have hne : (Value.slice A1 n1 c1).ownBlock ≠ some w.heap.size := fun e => by have := hown.out.base_le _ e; omega
          have hownb : Own2 wb (w.heap.size + 1) 100 pr2 (.slice A1 n1 c1) ps := hown.out.kept hgab (.inr hne)
          have hBb : Below w.heap.size w wb := below_grown hB hgab (fun k e => by cases e; omega)
          have hrdb := Lib.hid hrdb
          have HLit := Lib.hid (Blk.new wb 100 #[.string s1, .string s2])
          have hO2 := Lib.hid (hownb.alloc (.cells #[.string s1, .string s2] 100))
          have hgs := hBb.size
          clear hrda hgra hgrb hownb hown
          obtain ⟨vv, hvv⟩ : ∃ v, Value.slice A1 n1 c1 = v := ⟨_, rfl⟩
          have hsl : sliceLen vv = ps.length := by rw [← hvv]; exact HN1'.out
          rw [hvv] at hO2 hne ⊢
          clear hvv
          go_wp2_with ((refine wpList_append_2 (by rfl) (.tmp 32) (.tmp 36) 39 (by rfl) (w.heap.size + 1) 100 (.agg #[.string ⟨#[]⟩, .string ⟨#[]⟩]) 32 Try.underlying39 infoPr rfl pr2 _ ps (by rfl) hO2.out (s1, s2) ⟨rfl, rfl⟩ wb.heap.size 1 100 (by rfl) HLit.out (by omega) (by omega) (by simp; omega) ?_; intro v' w' hown' hgr hat))
          go_roundw
          case rel =>
            refine ⟨ps ++ [(s1, s2)], st2, Lib.hid hown', Lib.hid ?_, Lib.hid ?_, hstep, Lib.hid (fun _ _ => hN16), by simp; omega, ?_⟩
            · intro q hq
              rcases List.mem_append.1 hq with h | h
              · exact hsm.out q h
              · simp at h; subst h; exact ⟨HS1.out, HS2.out⟩
            · exact (hrdb.out.alloc (by omega) _).grown hgr (fun e => hne e.symm) (fun k e => by have := hO2.out.base_le k e; omega) (by simp; omega)
            · exact (hBb.alloc hBb.size _).grown hgr (by simp; omega) (fun k e => by have := hO2.out.base_le k e; omega)
          case measure => rw [hown'.sliceLen]; have := HN1'.out; simp [sliceLen]; omega
        · have hNn : ps.length = N := by have := hlp.out.1; have := HN1'.out; omega
          have HX2 := Lib.hid (show getL l = if saneL ps = true then .ok (ps, r) else .error 1 by
            have h2 := hlp.out.2
            rw [hNn, Nat.sub_self] at h2
            rw [HX.out, ← h2]; rfl)
          have dlt : decide (n1 < N) = false := decide_eq_false hlt
          have HBS := Lib.hid hbs
          have HBLK := Lib.hid hblk
          clear hbs hblk hown hsm hrd hlp
          cases hsane : saneL ps
          · have HE := Lib.hid (show getL l = .error 1 by rw [HX2.out, hsane]; rfl)
            go_wp2_with fail
            refine (lsane_any A1 n1 c1 ps _ (by have := HN1'.out; omega) hps.out).mono ?_
            rintro e w2 ⟨rfl, hb2⟩
            rw [hsane]
            have hblk2 := HBLK.out.below hb2 hgr0
            have k1 := hblk2.cell 1
            have k2 := hblk2.frozen 1
            have k3 := hblk2.lt
            have k4 : ∀ p : Bel (w2.setCell ⟨w.heap.size, 1, none⟩ (.int .i64 1)), p.now.cell? ⟨w.heap.size, 1, none⟩ = some (.int .i64 1) := fun p => (p.blk (hblk2.put 1 (.int .i64 1))).cell 1
            have hBB : Below w.heap.size w (w2.setCell ⟨w.heap.size, 1, none⟩ (.int .i64 1)) := (hB.trans (hb2.mono hB.size)).setCell (by exact Nat.le_refl _) _
            clear hblk2
            go_wp2_with fail
            refine wp_region_bel (by kernel_rfl) (by kernel_rfl) ?_
            repeat (
              refine WQ.step (fun KK hKK => ?_)
              go_simp
              refine hKK _ ?_; clear hKK KK)
            refine WQ.nil_ ?_
            rintro wq1 ⟨⟨wq, hq⟩, hwq⟩
            obtain rfl : wq = wq1 := hwq.symm
            clear hwq
            go_wp2
            refine bodyPost_ret (v := .tuple #[.slice none 0 0, .slice none 0 0, .int .i64 1]) (by simp [results, Try.results38, go_sem]) rfl ?_
            exact ⟨by rw [HE.out]; exact ⟨rfl, by omega⟩, hBB.trans (hq.mono hBB.size)⟩
          · have HE := Lib.hid (show getL l = .ok (ps, r) by rw [HX2.out, hsane]; rfl)
            go_wp2_with fail
            refine (lsane_any A1 n1 c1 ps _ (by have := HN1'.out; omega) hps.out).mono ?_
            rintro e w2 ⟨rfl, hb2⟩
            rw [hsane]
            have hblk2 := HBLK.out.below hb2 hgr0
            have k1 := hblk2.cell 1
            have k5 : ∀ p : Bel w2, p.now.cell? ⟨w.heap.size, 0, none⟩ = some (.slice A2 n2 c2) := fun p => (p.blk hblk2).cell 0
            clear hblk2
            go_wp2_with fail
            refine wp_region_bel (by kernel_rfl) (by kernel_rfl) ?_
            repeat (
              refine WQ.step (fun KK hKK => ?_)
              go_simp
              refine hKK _ ?_; clear hKK KK)
            refine WQ.nil_ ?_
            rintro wq1 ⟨⟨wq, hq⟩, hwq⟩
            obtain rfl : wq = wq1 := hwq.symm
            clear hwq
            go_wp2
            refine bodyPost_ret (v := .tuple #[.slice A1 n1 c1, .slice A2 n2 c2, .int .i64 0]) (by simp [results, Try.results38, go_sem]) rfl ?_
            have hbq := hb2.trans (hq.mono hb2.size)
            exact ⟨by rw [HE.out]; exact ⟨A1, n1, c1, A2, n2, c2, rfl, hps.out.now hbq, hnc1, hcm1', by have := HN1'.out; omega, HBS.out.below (hbq.mono (by omega)), hnc2, hcm2⟩, hB.trans (hbq.mono hB.size)⟩
end Go.Proofs.Ytkkbncgnobaliaa
