/-
  PastTimes' walk.
-/
import Derived.Test.YtcmhceilbampiaaPastL1
import Derived.Deep.RegionHeld3
namespace Go.Proofs.Ytcmhceilbampiaa
open Go.RowKit
open HoldP
open PastP
set_option linter.unusedVariables false
theorem step_append_2 {α : Type} {P : Program} {w : World} {ops : Array Oper} {o : Oper} {a : Act} {K : Act → World → Prop} {Q : Exit → Act → World → Prop} {E : Prop} (hgd : o.guard = none) (s x : Operand) (t : TypeId)
    (ho : o.op = .call { callee := .builtin .append, args := #[s, x], argTypes := #[t, t] })
    (base : Nat) (e : TypeId) (z : Value) (bytes : Nat) (ht : P.underlying t = some (.slice e)) (hi : (P.info? e).map (fun i => (i.zero, i.size, i.bytes)) = some (some z, 2, bytes)) (hz : z.cells.size = 2)
    (f : α → Value × Value) (v : Value) (l : List α) (hs : a.eval s = v) (hown : Own2 w base e f v l) (y : α) (h1 : (f y).1.oneCell' = true ∧ (f y).2.oneCell' = true)
    (g c : Nat) (t' : TypeId) (hx : a.eval x = .slice (some ⟨g, 0, none⟩) 1 c) (hr : Blk w g t' #[(f y).1, (f y).2]) (hsum : (l.length + 1) * bytes ≤ 140737488355328) (h63 : l.length + 1 ≤ 140737488355328) (hbase : base ≤ w.heap.size)
    (h : ∀ v' w', Own2 w' base e f v' (l ++ [y]) → w.grownBy w' v.ownBlock → (v'.ownBlock = v.ownBlock ∨ v'.ownBlock = some w.heap.size) → K (a.put o.dst v') w') :
    if Region.wanted o (yielded ops a.tmps) = true then Oper.wp P o a w K Q else E := by
  obtain ⟨i0, hi, hz0, hz1, hz2⟩ := info_parts hi
  refine step_append_sl w hgd s x t ho base e i0 z 2 bytes ht hi hz0 hz1 hz2 hz (by decide) v l.length (two f l) hs hown w.heap.size (some ⟨g, 0, none⟩) 1 c (fun j => if j = 0 then (f y).1 else (f y).2) (two f [y]) hx ?_ (by rw [two_len]; rfl) ?_ ?_ (by unfold maxLen; omega) hsum hbase ?_
  · intro _
    refine ⟨g, 0, rfl, hr.lt, fun i hi => ?_⟩
    rw [Nat.zero_add, hr.cell]
    match i, hi with
    | 0, _ => rfl
    | 1, _ => rfl
  · intro j u hu
    match j, hu with
    | 0, hu => simp [two] at hu; simp [hu]
    | 1, hu => simp [two] at hu; simp [hu]
    | j + 2, hu => simp [two] at hu
  · intro u hu
    simp [two] at hu
    rcases hu with rfl | rfl
    · exact h1.1
    · exact h1.2
  intro v' w' h2 h3 h4
  refine h v' w' ?_ h3 h4
  unfold Own2
  rw [List.length_append, two_append]
  exact h2
theorem cells2_grown {w w' : World} {row : Option Nat} {B b i0 i1 : Nat} {v0 v1 : Value} (hg : w.grownBy w' row) (hr : ∀ k, row = some k → B ≤ k) (hB : B ≤ w.heap.size) (h0 : b < B)
    (c0 : w.cell? ⟨b, i0, none⟩ = some v0) (c1 : w.cell? ⟨b, i1, none⟩ = some v1) : w'.cell? ⟨b, i0, none⟩ = some v0 ∧ w'.cell? ⟨b, i1, none⟩ = some v1 := by
  have hb := hg.block b (by omega) (fun e => by have := hr _ e.symm; omega)
  exact ⟨(World.cell?_of_block (w := w) (a := ⟨b, i0, none⟩) hb).trans c0, (World.cell?_of_block (w := w) (a := ⟨b, i1, none⟩) hb).trans c1⟩
/-- A look as two cells. -/
def pf (p : Int × Bool) : Value × Value := (.int .i64 p.1, .bool p.2)
/-- The first m looks of some. -/
def ptL (T : Nat → Int) (C : Nat → Bool) (m : Nat) : List (Int × Bool) := (List.range m).map fun i => (T i, C i)
theorem ptL_len (T : Nat → Int) (C : Nat → Bool) (m : Nat) : (ptL T C m).length = m := by simp [ptL]
theorem ptL_succ (T : Nat → Int) (C : Nat → Bool) (m : Nat) : ptL T C (m + 1) = ptL T C m ++ [(T m, C m)] := by simp [ptL, List.range_succ]
theorem infoPt : (Try.prog.info? 46).map (fun i => (i.zero, i.size, i.bytes)) = some (some (.agg #[.int .i64 0, .bool false]), 2, 16) := by kernel_rfl
theorem R2.ps {w : World} {A : Option Addr} {n : Nat} {T : Nat → Int} {C : Nat → Bool} (h : R2 w A n pf (ptL T C n)) : Ps w w.heap.size A n T C := fun hn => by
  obtain ⟨b, off, e, hb, -, -⟩ := h.at_ 0 (T 0, C 0) (by simp [ptL, hn])
  refine ⟨b, off, e, hb, fun i hi => ?_⟩
  obtain ⟨b', off', e', hb', h1, h2⟩ := h.at_ i (T i, C i) (by simp [ptL, hi])
  rw [e] at e'
  cases e'
  exact ⟨h1, h2⟩
set_option maxRecDepth 100000 in
set_option maxHeartbeats 1600000 in
theorem pastTimes_walk (w : World) (v : Value) (hv' : IsPoints w v) (wt : Int) (hw1 : -9223372036854775808 ≤ wt) (hw2 : wt ≤ 9223372036854775807) (k : Int) (hk1 : -9223372036854775808 ≤ k) (hk2 : k ≤ 9223372036854775807) (by_ : Int) (hi1 : -9223372036854775808 ≤ by_) (hi2 : by_ ≤ 9223372036854775807) :
    Calls Try.prog 12 #[v, .int .i64 wt, .int .i64 k, .int .i64 by_] w fun e w' => e = .returned (.bool true) ∧ Below w.heap.size w w' := by
  obtain ⟨A, n, cap, T, C, rfl, hps, hcn, hcap⟩ := hv'
  by_cases hn : n ≤ 60
  · have hP0 := Lib.hid hps; clear hps
    go_enter Try.func12, Try.ntmps12
    go_wp2_with fail
    refine (pawake_any _).mono ?_
    rintro e w1 ⟨rfl, hb1⟩
    have hP1 := Lib.hid (Q2.now hP0.out hb1)
    clear hP0
    go_wp2_with fail
    refine (psane_any A n cap T C _ (by omega) hP1.out).mono ?_
    rintro e w2 ⟨rfl, hb2⟩
    have hP2 := Lib.hid (Q2.now hP1.out hb2)
    have hB2 := hb1.trans (hb2.mono hb1.size)
    clear hP1 hb1 hb2
    cases hs : saneB n T
    · clear hs
      go_wp2
      go_ret
      exact ⟨rfl, hB2⟩
    have hS := Lib.hid (saneB_iff.1 hs)
    clear hs
    by_cases hby : by_ < 0
    · go_wp2
      go_ret
      exact ⟨rfl, hB2⟩
    by_cases hby2 : 9007199254740992 < by_
    · go_wp2
      go_ret
      exact ⟨rfl, hB2⟩
    have hN := Lib.hid (cntN_of hS.out)
    have d1 : decide (by_ < 0) = false := decide_eq_false hby
    have d2 : decide (9007199254740992 < by_) = false := decide_eq_false hby2
    go_wp2
    clear d1 d2
    go_loopw [10, 11] (fun vo i wr => ∃ m : Nat, m ≤ n ∧ i = .int .i64 m ∧ Own2 wr w2.heap.size 46 pf vo (ptL (fun j => T j + by_) C m) ∧ Below w2.heap.size w2 wr) (fun _ i _ => n - (intOf i).toNat)
    case atStart => exact ⟨0, by omega, rfl, Own2.nil_ _ _ _ _, Below.refl _ _⟩
    case round =>
      obtain ⟨m, hm, rfl, hown, hB⟩ := hrel
      by_cases hlt : m < n
      · obtain ⟨b0, off, rfl, g0, hc⟩ := (hP2.out.below hB) (by omega)
        have c0 : wr.cell? ⟨b0, off + m * 2, none⟩ = some (.int .i64 (T m)) := (hc m hlt).1
        have c1 : wr.cell? ⟨b0, off + m * 2 + 1, none⟩ = some (.bool (C m)) := (hc m hlt).2
        have hT := hS.out.bd hlt
        clear hc
        have HS := Lib.hid (ptL_succ (fun j => T j + by_) C m)
        have HL := Lib.hid (ptL_len (fun j => T j + by_) C m)
        have hwr : IntKind.i64.wrap (T m + by_) = T m + by_ := wr64 _ (by omega)
        have hP2' := Lib.hid hP2; clear hP2
        generalize T m = tm at c0 hT HS hwr
        generalize C m = cm at c1 HS
        have hT' := Lib.hid hT; clear hT
        generalize hzz : tm + by_ = z at HS hwr
        have hsz := hB.size
        have i0 : (0 : Int) ≤ (m : Int) := by omega
        have i1 : (m : Int) < (n : Int) := by omega
        obtain ⟨A9, n9, c9, rfl, -, -, -⟩ := hown.r2
        have HO := Lib.hid hown; clear hown
        have HN : Hid (Blk (wr.alloc (.cells #[.int .i64 z, .bool cm] 46)).drew wr.heap.size 46 #[(pf (z, cm)).1, (pf (z, cm)).2]) := (Blk.new wr 46 #[.int .i64 z, .bool cm]).drew
        have HO2 : Hid (Own2 (wr.alloc (.cells #[.int .i64 z, .bool cm] 46)).drew w2.heap.size 46 pf (.slice A9 n9 c9) (ptL (fun j => T j + by_) C m)) := (HO.out.alloc _).drew
        have hle : (ptL (fun j => T j + by_) C m).length + 1 ≤ 140737488355328 := by rw [HL.out]; omega
        have hle2 : ((ptL (fun j => T j + by_) C m).length + 1) * 16 ≤ 140737488355328 := by rw [HL.out]; omega
        go_wp2_with fail
        go_region_held3 (fun w' => w'.cell? ⟨b0, off + m * 2, none⟩ = some (.int .i64 tm) ∧ w'.cell? ⟨b0, off + m * 2 + 1, none⟩ = some (.bool cm))
          (first | go_keep | (go_split_ands; exact cells2_grown hgr (fun g hg => HO.out.base_le g hg) (by simp; omega) g0 (by assumption) (by assumption)))
          ((refine step_append_2 (by rfl) (.tmp 36) (.tmp 50) 34 (by rfl) w2.heap.size 46 (.agg #[.int .i64 0, .bool false]) 16 Try.underlying34 infoPt rfl pf (.slice A9 n9 c9) (ptL (fun j => T j + by_) C m) (by rfl) HO2.out (z, cm) ⟨rfl, rfl⟩ wr.heap.size 1 46 (by rfl) HN.out hle2 hle (by simp; omega) ?_; intro v' w' hown' hgr hat))
        go_wp2
        have hB3 : Below w2.heap.size w2 w' := (((hB.alloc hB.size _).drew).grown hgr (by simp; omega) (fun g hg => HO.out.base_le g hg))
        go_roundw
        case rel => exact ⟨m + 1, by omega, by go_num, by rw [HS.out]; exact hown', hB3⟩
        case measure => simp [intOf]; omega
      · obtain rfl : m = n := by omega
        obtain ⟨A9, n9, c9, rfl, hc9, hd9, hr9⟩ := hown.r2
        obtain rfl : m = n9 := by rw [hr9.len, ptL_len]
        have hR9 := Lib.hid (R2.ps hr9)
        have hP3 := Lib.hid (Q2.now hP2.out hB)
        have hB3 := hB2.trans (hB.mono hB2.size)
        clear hown hr9 hP2
        go_wp2_with fail
        refine (psane_any A9 m c9 (fun j => T j + by_) C _ (by omega) hR9.out).mono ?_
        rintro e w3 ⟨rfl, hb3⟩
        have hR10 := Lib.hid (Q2.now hR9.out hb3)
        have hP4 := Lib.hid (Q2.now hP3.out hb3)
        have hB4 := hB3.trans (hb3.mono hB3.size)
        cases hs2 : saneB m (fun j => T j + by_)
        · clear hs2
          go_wp2
          go_ret
          exact ⟨rfl, hB4⟩
        have hS2 := Lib.hid (saneB_iff.1 hs2)
        clear hs2
        have hN2 := Lib.hid (cntN_of hS2.out)
        go_wp2_with fail
        refine (pall_any A m cap T C wt k _ (by omega) hcn hcap hP4.out).mono ?_
        rintro e w4 ⟨⟨v, rfl, hown⟩, hb4⟩
        rw [hN.out] at hown
        obtain ⟨A4, n4, c4, rfl, hc4, hd4, hr4⟩ := hown.r1
        obtain rfl : m = n4 := by rw [hr4.len, allL_len]
        have hR4 := Lib.hid hr4
        have hR11 := Lib.hid (Q2.now hR10.out hb4)
        have hB5 := hB4.trans (hb4.mono hB4.size)
        clear hown hr4 hb3 hb4 hR9 hR10 hP3 hP4 hB3 hB4
        go_wp2_with fail
        refine (pall_any A9 m c9 (fun j => T j + by_) C wt k _ (by omega) hc9 hd9 hR11.out).mono ?_
        rintro e w5 ⟨⟨v, rfl, hown⟩, hb5⟩
        rw [hN2.out] at hown
        obtain ⟨A5, n5, c5, rfl, hc5, hd5, hr5⟩ := hown.r1
        obtain rfl : m = n5 := by rw [hr5.len, allL_len]
        have hE : allL (fun j => T j + by_) C (clT wt) (clT k) m = allL T C (clT wt) (clT k) m := by
          unfold allL
          exact List.map_congr_left (fun j _ => atP_shift T C (clT wt) (clT k) by_ j)
        rw [hE] at hr5
        have hR5 := Lib.hid hr5
        have hR6 := Lib.hid (hR4.out.below hb5)
        have hB6 := hB5.trans (hb5.mono hB5.size)
        clear hown hr5 hE
        go_wp2_with fail
        refine (rints_same A4 A5 m c4 c5 _ _ (by omega) hR6.out hR5.out).mono ?_
        rintro e w6 ⟨rfl, hb6⟩
        go_wp2
        go_ret
        exact ⟨rfl, hB6.trans (hb6.mono hB6.size)⟩
  · go_enter Try.func12, Try.ntmps12
    go_wp2_with fail
    refine (pawake_any _).mono ?_
    rintro e w1 ⟨rfl, hb1⟩
    go_wp2
    go_ret
    exact ⟨rfl, hb1⟩
end Go.Proofs.Ytcmhceilbampiaa
