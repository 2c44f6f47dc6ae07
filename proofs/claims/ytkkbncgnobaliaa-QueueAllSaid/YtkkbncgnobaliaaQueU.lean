/-
  queues: Sent.
-/
import Derived.Test.YtkkbncgnobaliaaQueT
import Derived.Test.YtkkbncgnobaliaaCut
import Derived.Test.YtkkbncgnobaliaaGr
namespace Go.Proofs.Ytkkbncgnobaliaa
open Go.RowKit
open CodP
set_option linter.unusedVariables false
theorem Nts.drop1 {w : World} {B n cap : Nat} {A : Option Addr} {ns : List Nt} (h : Nts w B A n ns) (hn : 1 ≤ n) (hc : n ≤ cap) : Nts w B (cutAt A cap 1 5) (n - 1) (ns.drop 1) := by
  obtain ⟨x, l, rfl⟩ : ∃ x l, ns = x :: l := by
    cases ns with
    | nil => have := h.len; simp at this; omega
    | cons x l => exact ⟨x, l, rfl⟩
  refine ⟨by have := h.len; simp at this ⊢; omega, ?_, fun i hi => ?_⟩
  · refine (Sl.cut (size := 5) (k := 1) h.sl hn hc).congr fun i hi => ?_
    show (five (x :: l)).getD (1 * 5 + i) _ = (five l).getD i _
    have e : five (x :: l) = x.cells ++ five l := rfl
    rw [e, List.getD_eq_getElem?_getD, List.getD_eq_getElem?_getD, List.getElem?_append_right (by simp [Nt.cells])]
    simp [Nt.cells]
  · have := h.rn (i + 1) (by omega)
    exact this
/-- What is left behind a try. -/
def snNs (ns : List Nt) (ok : Bool) (t : Int) : List Nt := if rdB ns t then bcN (nt ns 0) ok (near t) ++ ns.drop 1 else ns
def snL (ns : List Nt) (ok : Bool) (t l : Int) : Int := if rdB ns t then bcL (nt ns 0) ok l else l
theorem near_near (t : Int) : near (near t) = near t := by unfold near; omega
theorem rdB_near (ns : List Nt) (t : Int) : rdB ns (near t) = rdB ns t := by unfold rdB; rw [near_near]
theorem rdN_near (ns : List Nt) (t : Int) : rdN ns (near t) = rdN ns t := by unfold rdN; rw [rdB_near]
/-- A world that has grown, one block changed. -/
structure Gw (w : World) (r : Option Nat) where
  now : World
  gr : w.grownBy now r
instance (w : World) (r : Option Nat) : Inhabited (Gw w r) := ⟨⟨w, World.grownBy.refl _ _⟩⟩
theorem Gw.cells {w : World} {r : Option Nat} {g : Nat} {t : TypeId} {cs : Array Value} (h : Blk w g t cs) (hne : some g ≠ r) (i : Nat) : ∀ p : Gw w r, p.now.cell? ⟨g, i, none⟩ = cs[i]? := fun p => (h.grown p.gr hne).cell i
section
variable {w : World}
theorem step_append_5 {ops : Array Oper} {o : Oper} {a : Act} {K : Act → World → Prop} {Q : Exit → Act → World → Prop} {E : Prop} (hgd : o.guard = none) (s x : Operand)
    (ho : o.op = .call { callee := .builtin .append, args := #[s, x], argTypes := #[73, 73] })
    (base : Nat) (v : Value) (l : List Nt) (hs : a.eval s = v) (hown : Own5 w base 80 v l)
    (B : Nat) (A : Option Addr) (m c : Nat) (l2 : List Nt) (hx : a.eval x = .slice A m c) (hlen : l2.length = m) (hr : Sl w B A (m * 5) (fun i => (five l2).getD i (.bool false))) (hsum : l.length + m ≤ 1000000) (hbase : base ≤ w.heap.size)
    (h : ∀ v' w', Own5 w' base 80 v' (l ++ l2) → w.grownBy w' v.ownBlock → (v'.ownBlock = v.ownBlock ∨ v'.ownBlock = some w.heap.size) → K (a.put o.dst v') w') :
    if Region.wanted o (yielded ops a.tmps) = true then Oper.wp Try.prog o a w K Q else E := by
  obtain ⟨i0, hi, hz0, hz1, hz2⟩ := info_parts infoNt
  refine step_append_sl w hgd s x _ ho base _ i0 _ 5 56 Try.underlying73 hi hz0 hz1 hz2 rfl (by decide) v l.length (five l) hs hown B A m c _ (five l2) hx hr (by rw [five_len, hlen]) (fun j u hu => by
    show u = (five l2).getD j _
    rw [List.getD_eq_getElem?_getD, hu]; rfl) (five_one l2) (by unfold maxLen; omega) (by omega) hbase ?_
  intro v' w' h1 h2 h3
  refine h v' w' ?_ h2 h3
  unfold Own5
  rw [List.length_append, hlen, five_append]
  exact h1
end
theorem nt_mem {l : List Nt} {i : Nat} (h : i < l.length) : nt l i ∈ l := by
  unfold nt; rw [List.getD_eq_getElem?_getD, List.getElem?_eq_getElem h]; exact List.getElem_mem h
theorem mem_nt {l : List Nt} {x : Nt} (h : x ∈ l) : ∃ i, i < l.length ∧ nt l i = x := by
  obtain ⟨i, hi, rfl⟩ := List.mem_iff_getElem.1 h
  exact ⟨i, hi, by unfold nt; rw [List.getD_eq_getElem?_getD, List.getElem?_eq_getElem hi]; rfl⟩
theorem rn_left {w : World} {B : Nat} {ns : List Nt} {ok : Bool} {T : Int} (h0 : 0 < ns.length) (h : ∀ i, i < ns.length → Rn w B (nt ns i)) (i : Nat) (hi : i < (bcN (nt ns 0) ok T ++ ns.drop 1).length) : Rn w B (nt (bcN (nt ns 0) ok T ++ ns.drop 1) i) := by
  have hm := nt_mem hi
  rcases List.mem_append.1 hm with hm | hm
  · have hy := h 0 h0
    generalize nt (bcN (nt ns 0) ok T ++ ns.drop 1) i = x at hm
    unfold bcN at hm
    split at hm
    · simp at hm
    · split at hm
      · simp at hm
      · simp at hm
        subst hm
        exact ⟨hy.prs, hy.cap⟩
  · obtain ⟨j, hj, e⟩ := mem_nt (List.mem_of_mem_drop hm)
    rw [← e]; exact h j hj
theorem sizeNt : (Try.prog.info? 80).map (·.size) = some 5 := by kernel_rfl
set_option maxRecDepth 100000 in
set_option maxHeartbeats 6400000 in
theorem sent_at (v : Value) (d l : Int) (ns : List Nt) (t : Int) (ok : Bool) (w : World) (hb : QV w w.heap.size v ns d l) :
    Calls Try.prog 52 #[v, .int .i64 t, .bool ok] w fun e w' => (∃ v', e = .returned v' ∧ QV w' w'.heap.size v' (snNs (cNs ns d l) ok t) (cI ns d l d) (snL (cNs ns d l) ok t (cI ns d l l))) ∧ Below w.heap.size w w' := by
  have HB := Lib.hid hb
  obtain ⟨A0, n0, c0, rfl, h1, h2, h3⟩ := hb.out; clear h1 hb
  have HC := c_sane ns d l
  obtain ⟨ns1, H1⟩ : ∃ x, Hid (cNs ns d l = x) := ⟨_, Lib.hid rfl⟩
  obtain ⟨d1, H2⟩ : ∃ x, Hid (cI ns d l d = x) := ⟨_, Lib.hid rfl⟩
  obtain ⟨l1, H3⟩ : ∃ x, Hid (cI ns d l l = x) := ⟨_, Lib.hid rfl⟩
  rw [H1.out, H2.out, H3.out] at HC
  have hn16 := HC.1
  have hl1 := timeB_iff.1 HC.2.2.1
  have HOK := Lib.hid HC.2.2.2
  have HCC := Lib.hid (c_of HC)
  clear HC
  go_enter Try.func52, Try.ntmps52
  go_wp2_with fail
  refine (counted_at w.heap.size _ d l ns _ (by simp; omega) (HB.out.below ?hb0)).mono ?_
  case hb0 => exact ((((Below.refl _ _).alloc (Nat.le_refl _) _).alloc (by simp) _).alloc (by simp; omega) _).alloc (by simp; omega) _
  rintro e w1 ⟨⟨v1, rfl, hq1⟩, hb1⟩
  rw [H1.out, H2.out, H3.out] at hq1
  have hB1 : Below w.heap.size w w1 := (((((Below.refl w.heap.size w).alloc (Nat.le_refl _) _).alloc (by simp) _).alloc (by simp; omega) _).alloc (by simp; omega) _).trans (hb1.mono (by simp; omega))
  have b0 := ((((Blk.new w 75 #[.slice A0 n0 c0, .int .i64 d, .int .i64 l]).alloc (.cells #[.int .i64 t] 3)).alloc (.cells #[.bool ok] 4)).alloc (.cells #[.slice none 0 0, .int .i64 0, .int .i64 0] 75)).below hb1 (by simp; omega)
  have b1 := (((Blk.new (w.alloc (.cells #[.slice A0 n0 c0, .int .i64 d, .int .i64 l] 75)) 3 #[.int .i64 t]).alloc (.cells #[.bool ok] 4)).alloc (.cells #[.slice none 0 0, .int .i64 0, .int .i64 0] 75)).below hb1 (by simp)
  have b2 := ((Blk.new ((w.alloc (.cells #[.slice A0 n0 c0, .int .i64 d, .int .i64 l] 75)).alloc (.cells #[.int .i64 t] 3)) 4 #[.bool ok]).alloc (.cells #[.slice none 0 0, .int .i64 0, .int .i64 0] 75)).below hb1 (by simp)
  have b3 := (Blk.new (((w.alloc (.cells #[.slice A0 n0 c0, .int .i64 d, .int .i64 l] 75)).alloc (.cells #[.int .i64 t] 3)).alloc (.cells #[.bool ok] 4)) 75 #[.slice none 0 0, .int .i64 0, .int .i64 0]).below hb1 (by simp)
  simp only [World.size_alloc] at b1 b2 b3
  have hsz1 : w.heap.size + 1 + 1 + 1 < w1.heap.size := b3.lt
  obtain ⟨A1, n1, c1, rfl, hq1, hnc1, hc1⟩ := hq1.out
  have hlen1 : ns1.length = n1 := hq1.len
  have x0 : w1.frozen? ⟨w.heap.size, 0, none⟩ = false := b0.frozen 0
  have x1 : w1.frozen? ⟨w.heap.size, 1, none⟩ = false := b0.frozen 1
  have x2 : w1.frozen? ⟨w.heap.size, 2, none⟩ = false := b0.frozen 2
  have hz0 : w1.cell? ⟨w.heap.size, 0, none⟩ = some (.slice A0 n0 c0) := b0.cell 0
  have hz1 : w1.cell? ⟨w.heap.size, 1, none⟩ = some (.int .i64 d) := b0.cell 1
  have hz2 : w1.cell? ⟨w.heap.size, 2, none⟩ = some (.int .i64 l) := b0.cell 2
  have hz3 : w1.cell? ⟨w.heap.size + 1, 0, none⟩ = some (.int .i64 t) := b1.cell 0
  have hz4 : w1.frozen? ⟨w.heap.size + 1, 0, none⟩ = false := b1.frozen 0
  have g0 := b0.agg3 (.slice A1 n1 c1) (.int .i64 d1) (.int .i64 l1)
  have g1 := b1.away3 (k := w.heap.size) (by omega) (.slice A1 n1 c1) (.int .i64 d1) (.int .i64 l1)
  have g2 := b2.away3 (k := w.heap.size) (by omega) (.slice A1 n1 c1) (.int .i64 d1) (.int .i64 l1)
  have g3 := b3.away3 (k := w.heap.size) (by omega) (.slice A1 n1 c1) (.int .i64 d1) (.int .i64 l1)
  have hB2 := below_set3 hB1 (Nat.le_refl _) (.slice A1 n1 c1) (.int .i64 d1) (.int .i64 l1)
  have HQ := Lib.hid (((hq1.setCell (p := ⟨w.heap.size, 0, none⟩) (Nat.le_refl _) (.slice A1 n1 c1)).setCell (p := ⟨w.heap.size, 1, none⟩) (Nat.le_refl _) (.int .i64 d1)).setCell (p := ⟨w.heap.size, 2, none⟩) (Nat.le_refl _) (.int .i64 l1))
  clear hb1 b0 b1 b2 b3 hq1
  go_wp2_with fail
  refine (near_any t _).mono ?_
  rintro e w2 ⟨rfl, rfl⟩
  obtain ⟨T, HT⟩ : ∃ T, Hid (near t = T) := ⟨_, Lib.hid rfl⟩
  rw [HT.out]
  obtain ⟨W, hW⟩ : ∃ W, ((w1.setCell ⟨w.heap.size, 0, none⟩ (.slice A1 n1 c1)).setCell ⟨w.heap.size, 1, none⟩ (.int .i64 d1)).setCell ⟨w.heap.size, 2, none⟩ (.int .i64 l1) = W := ⟨_, rfl⟩
  have hszW : W.heap.size = w1.heap.size := by rw [← hW]; simp
  rw [hW] at g0 g1 g2 g3 hB2 HQ ⊢
  clear hW hB1 x0 x1 x2 hz0 hz1 hz2 hz3 hz4
  have y0 : W.cell? ⟨w.heap.size, 0, none⟩ = some (.slice A1 n1 c1) := g0.cell 0
  have y1 : W.cell? ⟨w.heap.size, 1, none⟩ = some (.int .i64 d1) := g0.cell 1
  have y2 : W.cell? ⟨w.heap.size, 2, none⟩ = some (.int .i64 l1) := g0.cell 2
  have y3 : W.cell? ⟨w.heap.size + 1, 0, none⟩ = some (.int .i64 t) := g1.cell 0
  have y4 : W.frozen? ⟨w.heap.size + 1, 0, none⟩ = false := g1.frozen 0
  go_wp2_with fail
  have m0 := g0.away (p := ⟨w.heap.size + 1, 0, none⟩) (by simp) (.int .i64 T)
  have m1 : Blk (W.setCell ⟨w.heap.size + 1, 0, none⟩ (.int .i64 T)) (w.heap.size + 1) 3 #[.int .i64 T] := g1.put 0 (.int .i64 T)
  have m2 := g2.away (p := ⟨w.heap.size + 1, 0, none⟩) (by simp) (.int .i64 T)
  have m3 := g3.away (p := ⟨w.heap.size + 1, 0, none⟩) (by simp; omega) (.int .i64 T)
  have hB3 := hB2.setCell (p := ⟨w.heap.size + 1, 0, none⟩) (by simp) (.int .i64 T)
  have HQ3 := Lib.hid (HQ.out.setCell (p := ⟨w.heap.size + 1, 0, none⟩) (by simp) (.int .i64 T))
  refine (ready_at _ d1 l1 ns1 T _ ⟨A1, n1, c1, rfl, HQ3.out.more (by simp; omega), hnc1, hc1⟩).mono ?_
  rintro e w3 ⟨rfl, hb3⟩
  have HR := Lib.hid (show rdN ns1 T = rdN ns1 t ∧ rdB ns1 T = rdB ns1 t by rw [← HT.out]; exact ⟨rdN_near _ _, rdB_near _ _⟩)
  rw [HCC.out.1, HR.out.1, HR.out.2]
  have k0 := m0.below hb3 m0.lt
  have k1 := m1.below hb3 m1.lt
  have k2 := m2.below hb3 m2.lt
  have k3 := m3.below hb3 m3.lt
  have hB4 := hB3.trans (hb3.mono hB3.size)
  have HQ4 := Lib.hid (HQ3.out.below (hb3.mono hB3.size))
  have hsz3 : w.heap.size + 1 + 1 + 1 < w3.heap.size := k3.lt
  clear hb3 m0 m1 m2 m3 hB3 HQ3 g0 g1 g2 g3 hB2 HQ y0 y1 y2 y3 y4
  obtain ⟨⟨yA, yn, yc, yL, yf, yt, yk, yx⟩, HY⟩ : ∃ y, Hid (rdN ns1 t = y) := ⟨_, Lib.hid rfl⟩
  rw [HY.out]
  simp only [Nt.val]
  have y0 : w3.cell? ⟨w.heap.size, 0, none⟩ = some (.slice A1 n1 c1) := k0.cell 0
  have y1 : w3.cell? ⟨w.heap.size, 1, none⟩ = some (.int .i64 d1) := k0.cell 1
  have y2 : w3.cell? ⟨w.heap.size, 2, none⟩ = some (.int .i64 l1) := k0.cell 2
  have z0 : w3.cell? ⟨w.heap.size + 1 + 1 + 1, 0, none⟩ = some (.slice none 0 0) := k3.cell 0
  have z1 : w3.cell? ⟨w.heap.size + 1 + 1 + 1, 1, none⟩ = some (.int .i64 0) := k3.cell 1
  have z2 : w3.cell? ⟨w.heap.size + 1 + 1 + 1, 2, none⟩ = some (.int .i64 0) := k3.cell 2
  have f0 : w3.frozen? ⟨w.heap.size + 1 + 1 + 1, 0, none⟩ = false := k3.frozen 0
  have f1 : w3.frozen? ⟨w.heap.size + 1 + 1 + 1, 1, none⟩ = false := k3.frozen 1
  have f2 : w3.frozen? ⟨w.heap.size + 1 + 1 + 1, 2, none⟩ = false := k3.frozen 2
  have hs0 : w.heap.size < w3.heap.size := by omega
  have hs1 : w.heap.size + 1 < w3.heap.size := by omega
  have hs2 : w.heap.size + 1 + 1 < w3.heap.size := by omega
  have hs3 : w.heap.size + 1 + 1 + 1 < w3.heap.size := hsz3
  cases hrd : rdB ns1 t
  · have HE := Lib.hid (show snNs ns1 ok t = ns1 ∧ snL ns1 ok t l1 = l1 by unfold snNs snL; rw [hrd]; exact ⟨rfl, rfl⟩)
    clear k0 k1 k2 k3
    go_wp2
    refine bodyPost_ret (v := .agg #[.slice A1 n1 c1, .int .i64 d1, .int .i64 l1]) (by simp [results, Try.results52, go_sem, z0, z1, z2, hs3]) rfl ?_
    refine ⟨⟨_, rfl, ?_⟩, (below_set3 hB4 (by omega) _ _ _).alloc (by simp; omega) _⟩
    rw [H1.out, H2.out, H3.out, HE.out.1, HE.out.2]
    exact ⟨A1, n1, c1, rfl, ((((HQ4.out.setCell (by simp; omega) _).setCell (by simp; omega) _).setCell (by simp; omega) _).alloc (by simp; omega) _).more (by simp; omega), hnc1, hc1⟩
  · have HRD := Lib.hid hrd
    have n0p : 1 ≤ n1 := by
      rw [← hlen1]; unfold rdB at hrd; simp at hrd; omega
    have HY0 := Lib.hid (show nt ns1 0 = ⟨yA, yn, yc, yL, yf, yt, yk, yx⟩ by rw [← HY.out]; unfold rdN; rw [hrd]; rfl)
    clear hrd
    go_wp2_with fail
    obtain ⟨X, hX⟩ : ∃ X, (w3.alloc (.cells #[.slice yA yn yc, .bool yf, .int .i64 yt, .int .i64 yk, .int .i64 yx] 80)).alloc (.cells #[.int .i64 l1] 3) = X := ⟨_, rfl⟩
    have m0 := (k0.alloc (.cells #[.slice yA yn yc, .bool yf, .int .i64 yt, .int .i64 yk, .int .i64 yx] 80)).alloc (.cells #[.int .i64 l1] 3)
    have m1 := (k1.alloc (.cells #[.slice yA yn yc, .bool yf, .int .i64 yt, .int .i64 yk, .int .i64 yx] 80)).alloc (.cells #[.int .i64 l1] 3)
    have m2 := (k2.alloc (.cells #[.slice yA yn yc, .bool yf, .int .i64 yt, .int .i64 yk, .int .i64 yx] 80)).alloc (.cells #[.int .i64 l1] 3)
    have m3 := (k3.alloc (.cells #[.slice yA yn yc, .bool yf, .int .i64 yt, .int .i64 yk, .int .i64 yx] 80)).alloc (.cells #[.int .i64 l1] 3)
    have m4 := (Blk.new w3 80 #[.slice yA yn yc, .bool yf, .int .i64 yt, .int .i64 yk, .int .i64 yx]).alloc (.cells #[.int .i64 l1] 3)
    have m5 := Blk.new (w3.alloc (.cells #[.slice yA yn yc, .bool yf, .int .i64 yt, .int .i64 yk, .int .i64 yx] 80)) 3 #[.int .i64 l1]
    have hX3 : Below w.heap.size w3 ((w3.alloc (.cells #[.slice yA yn yc, .bool yf, .int .i64 yt, .int .i64 yk, .int .i64 yx] 80)).alloc (.cells #[.int .i64 l1] 3)) := ((Below.refl _ _).alloc (by omega) _).alloc (by simp; omega) _
    simp only [World.size_alloc] at m5
    rw [hX] at m0 m1 m2 m3 m4 m5 hX3 ⊢
    have hszX : X.heap.size = w3.heap.size + 1 + 1 := by rw [← hX]; simp
    clear hX k0 k1 k2 k3 y0 y1 y2 z0 z1 z2 f0 f1 f2
    have q0 : ∀ p : Gw X (some (w3.heap.size + 1)), p.now.cell? ⟨w.heap.size, 0, none⟩ = some (.slice A1 n1 c1) := Gw.cells m0 (by simp; omega) 0
    have v0 : ∀ p : Gw X (some (w3.heap.size + 1)), p.now.cell? ⟨w3.heap.size, 0, none⟩ = some (.slice yA yn yc) := Gw.cells m4 (by simp) 0
    have v1 : ∀ p : Gw X (some (w3.heap.size + 1)), p.now.cell? ⟨w3.heap.size, 1, none⟩ = some (.bool yf) := Gw.cells m4 (by simp) 1
    have v2 : ∀ p : Gw X (some (w3.heap.size + 1)), p.now.cell? ⟨w3.heap.size, 2, none⟩ = some (.int .i64 yt) := Gw.cells m4 (by simp) 2
    have v3 : ∀ p : Gw X (some (w3.heap.size + 1)), p.now.cell? ⟨w3.heap.size, 3, none⟩ = some (.int .i64 yk) := Gw.cells m4 (by simp) 3
    have v4 : ∀ p : Gw X (some (w3.heap.size + 1)), p.now.cell? ⟨w3.heap.size, 4, none⟩ = some (.int .i64 yx) := Gw.cells m4 (by simp) 4
    have s1 : ∀ W, (Instr.slice 73 (.slice A1 n1 c1) (some (.int .i64 1)) none none).run Try.prog W = .ok (.slice (cutAt A1 c1 1 5) (n1 - 1) (c1 - 1)) W := run_cut_lo Try.underlying73 5 sizeNt A1 n1 c1 1 n0p
    have HYK := Lib.hid (show 0 ≤ yk ∧ yk < 8 from by
      have := HOK.out 0 (by omega)
      rw [HY0.out] at this
      exact this.2.2.2)
    refine wp_region_mid2 (fun w' => ∃ p : Gw X (some (w3.heap.size + 1)), w' = p.now) ⟨⟨X.drew, ⟨rfl, rfl, rfl, Nat.le_refl _, fun _ _ _ => rfl⟩⟩, rfl⟩ [0, 1, 3, 4, 5] 2 6 [7] _ _ (by rfl) (by rfl) (by kernel_rfl) (by kernel_rfl) (fun _ _ dd _ _ h => by cases dd <;> exact h) ?_
    repeat (
      refine TK.step (by rfl) (fun KK hKK => ?_)
      go_simp
      refine hKK _ ?_; clear hKK KK)
    refine TK.nil_ ?_
    intro KM hKM
    go_simp
    refine (become_any ⟨yA, yn, yc, yL, yf, yt, yk, yx⟩ (w.heap.size + 1 + 1) (w3.heap.size + 1) (w.heap.size + 1) ok l1 T X.drew m2.drew m5.drew m1.drew hl1 (by rw [← HT.out]; exact near_b t) HYK.out (by omega)).mono ?_
    rintro e w4 ⟨⟨vb, rfl, hown4⟩, hgr4, hbl4⟩
    have hgr4 : X.grownBy w4 (some (w3.heap.size + 1)) := ⟨hgr4.os, hgr4.tape, hgr4.output, hgr4.size, hgr4.block⟩
    have hown4 : Own5 w4 X.heap.size 80 vb (bcN ⟨yA, yn, yc, yL, yf, yt, yk, yx⟩ ok T) := hown4
    refine hKM _ _ ⟨⟨w4, hgr4⟩, rfl⟩ ?_
    clear hKM KM v0 v1 v2 v3 v4 q0
    have hX4 : Below w.heap.size w3 w4 := hX3.grown hgr4 (by omega) (fun g e => by cases e; omega)
    have HN4 := Lib.hid ((HQ4.out.below hX4).drop1 n0p hnc1)
    have hlb : (bcN ⟨yA, yn, yc, yL, yf, yt, yk, yx⟩ ok T).length ≤ 1 := by unfold bcN; split; simp; split <;> simp
    have j0 := m0.grown hgr4 (by simp; omega)
    have j3 := m3.grown hgr4 (by simp; omega)
    have hszw4 := hgr4.size
    obtain ⟨bcl, HBCL⟩ : ∃ x, Hid (bcL ⟨yA, yn, yc, yL, yf, yt, yk, yx⟩ ok l1 = x) := ⟨_, Lib.hid rfl⟩
    rw [HBCL.out] at hbl4
    intro KM hKM
    refine step_append_5 (by rfl) (.tmp 30) (.tmp 33) (by rfl) X.heap.size vb _ (by rfl) hown4 w.heap.size (cutAt A1 c1 1 5) (n1 - 1) (c1 - 1) (ns1.drop 1) (by rfl) HN4.out.len HN4.out.sl (by omega) hszw4 ?_
    intro v5 w5 hown5 hgr5 hat5
    have hne : ∀ k, k < X.heap.size → some k ≠ vb.ownBlock := fun k hk e => by have := hown4.base_le _ e.symm; omega
    have h0 := j0.grown hgr5 (hne _ (by omega))
    have h3' := j3.grown hgr5 (hne _ (by omega))
    have h5 := hbl4.grown hgr5 (hne _ (by omega))
    have hX5 : Below w.heap.size w3 w5 := hX4.grown hgr5 (by omega) (fun g e => by have := hown4.base_le g e; omega)
    have hsz5 := hgr5.size
    have hgr45 : X.grownBy w5 (some (w3.heap.size + 1)) := ⟨hgr5.os.trans hgr4.os, hgr5.tape.trans hgr4.tape, hgr5.output.trans hgr4.output, Nat.le_trans hgr4.size hgr5.size, fun k hk hk2 => (hgr5.block k (by omega) (hne k hk)).trans (hgr4.block k hk hk2)⟩
    refine hKM _ _ ⟨⟨w5, hgr45⟩, rfl⟩ ?_
    clear hKM KM
    obtain ⟨A5, n5, c5, rfl⟩ := hown5.shape
    repeat (
      refine TK.step (by rfl) (fun KK hKK => ?_)
      go_simp
      refine hKK _ ?_; clear hKK KK)
    refine TK.nil_ ?_
    have y1 : w5.cell? ⟨w.heap.size, 1, none⟩ = some (.int .i64 d1) := h0.cell 1
    have y2 : w5.cell? ⟨w3.heap.size + 1, 0, none⟩ = some (.int .i64 bcl) := h5.cell 0
    have z0 : w5.cell? ⟨w.heap.size + 1 + 1 + 1, 0, none⟩ = some (.slice none 0 0) := h3'.cell 0
    have z1 : w5.cell? ⟨w.heap.size + 1 + 1 + 1, 1, none⟩ = some (.int .i64 0) := h3'.cell 1
    have z2 : w5.cell? ⟨w.heap.size + 1 + 1 + 1, 2, none⟩ = some (.int .i64 0) := h3'.cell 2
    have f0 : w5.frozen? ⟨w.heap.size + 1 + 1 + 1, 0, none⟩ = false := h3'.frozen 0
    have f1 : w5.frozen? ⟨w.heap.size + 1 + 1 + 1, 1, none⟩ = false := h3'.frozen 1
    have f2 : w5.frozen? ⟨w.heap.size + 1 + 1 + 1, 2, none⟩ = false := h3'.frozen 2
    have HO5 := Lib.hid hown5
    clear j0 j3 h0 h3' h5 hgr4 hgr5 hgr45 hat5 hown4 hown5 hbl4 m0 m1 m2 m3 m4 m5 hX3 hX4
    go_wp2
    refine bodyPost_ret (v := .agg #[.slice A5 n5 c5, .int .i64 d1, .int .i64 bcl]) (by simp [results, Try.results52, go_sem, z0, z1, z2]) rfl ?_
    have hBF := below_set3 (k := w.heap.size + 1 + 1 + 1) hX5 (by omega) (.slice A5 n5 c5) (.int .i64 d1) (.int .i64 bcl)
    refine ⟨⟨_, rfl, ?_⟩, hB4.trans hBF⟩
    have HE := Lib.hid (show snNs ns1 ok t = bcN (nt ns1 0) ok T ++ ns1.drop 1 ∧ snL ns1 ok t l1 = bcl by unfold snNs snL; rw [HRD.out, HT.out, HY0.out, HBCL.out]; exact ⟨rfl, rfl⟩)
    rw [H1.out, H2.out, H3.out, HE.out.1, HE.out.2]
    have hO5 := ((HO5.out.setCell (a := ⟨w.heap.size + 1 + 1 + 1, 0, none⟩) (by simp; omega) (.slice A5 n5 c5)).setCell (a := ⟨w.heap.size + 1 + 1 + 1, 1, none⟩) (by simp; omega) (.int .i64 d1)).setCell (a := ⟨w.heap.size + 1 + 1 + 1, 2, none⟩) (by simp; omega) (.int .i64 bcl)
    rw [← HY0.out] at hO5
    obtain ⟨A6, n6, c6, e6, hN6, hc6⟩ := hO5.nts (B := w.heap.size) (by have := hBF.size; simp; omega) (rn_left (by omega) (fun i hi => (HQ4.out.rn i (by omega)).below hBF))
    injection e6 with e6 e7 e8
    subst e6 e7 e8
    exact ⟨_, _, _, rfl, hN6, hc6.1, hc6.2⟩
end Go.Proofs.Ytkkbncgnobaliaa
