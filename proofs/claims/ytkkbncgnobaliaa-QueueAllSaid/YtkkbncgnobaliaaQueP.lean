/-
  queues: a row of notes of the call's own, Clone, Push.
-/
import Derived.Test.YtkkbncgnobaliaaQueS
import Derived.Test.YtkkbncgnobaliaaOwn
namespace Go.Proofs.Ytkkbncgnobaliaa
open Go.RowKit
open CodP
set_option linter.unusedVariables false
section
variable {w w' : World} {B B' n : Nat} {A : Option Addr} {ns : List Nt} {y : Nt}
theorem Prs.setCell {L : Lab} (h : Prs w B A n L) {p : Addr} (hB : B ≤ p.block) (u : Value) : Prs (w.setCell p u) B A n L := ⟨h.len, h.q.setCell hB u, h.sz⟩
theorem Prs.alloc {L : Lab} (h : Prs w B A n L) (hB : B ≤ w.heap.size) (o : Obj) : Prs (w.alloc o) B A n L := ⟨h.len, h.q.alloc hB o, h.sz⟩
theorem Prs.grown {L : Lab} {row : Option Nat} (h : Prs w B A n L) (hg : w.grownBy w' row) (hB : B ≤ w.heap.size) (hr : ∀ g, row = some g → B ≤ g) : Prs w' B A n L := ⟨h.len, h.q.grown hg hB hr, h.sz⟩
theorem Rn.setCell (h : Rn w B y) {p : Addr} (hB : B ≤ p.block) (u : Value) : Rn (w.setCell p u) B y := ⟨h.prs.setCell hB u, h.cap⟩
theorem Rn.alloc (h : Rn w B y) (hB : B ≤ w.heap.size) (o : Obj) : Rn (w.alloc o) B y := ⟨h.prs.alloc hB o, h.cap⟩
theorem Rn.grown {row : Option Nat} (h : Rn w B y) (hg : w.grownBy w' row) (hB : B ≤ w.heap.size) (hr : ∀ g, row = some g → B ≤ g) : Rn w' B y := ⟨h.prs.grown hg hB hr, h.cap⟩
theorem Nts.setCell (h : Nts w B A n ns) {p : Addr} (hB : B ≤ p.block) (u : Value) : Nts (w.setCell p u) B A n ns := ⟨h.len, h.sl.setCell hB u, fun i hi => (h.rn i hi).setCell hB u⟩
theorem Nts.alloc (h : Nts w B A n ns) (hB : B ≤ w.heap.size) (o : Obj) : Nts (w.alloc o) B A n ns := ⟨h.len, h.sl.alloc hB o, fun i hi => (h.rn i hi).alloc hB o⟩
theorem Nts.grown {row : Option Nat} (h : Nts w B A n ns) (hg : w.grownBy w' row) (hB : B ≤ w.heap.size) (hr : ∀ g, row = some g → B ≤ g) : Nts w' B A n ns := ⟨h.len, h.sl.grown hg hB hr, fun i hi => (h.rn i hi).grown hg hB hr⟩
end
theorem addr_add (g i : Nat) : (⟨g, 0, none⟩ : Addr).add i = ⟨g, 0 + i, none⟩ := by unfold Addr.add; split <;> simp_all
/-- A slice of notes of the call's own. -/
def Own5 (w : World) (base e : Nat) (v : Value) (l : List Nt) : Prop := w.ownsRow base e 5 v l.length (five l)
section
variable {w w' : World} {base e : Nat} {v : Value} {l : List Nt}
theorem Own5.nil_ (w : World) (base e : Nat) : Own5 w base e (.slice none 0 0) [] := World.ownsRow_nil _ _ _ _
theorem Own5.form (h : Own5 w base e v l) : (v = .slice none 0 0 ∧ l = []) ∨ ∃ g cap, v = .slice (some ⟨g, 0, none⟩) l.length cap ∧ base ≤ g ∧ g < w.heap.size ∧ l.length ≤ cap ∧ cap ≤ maxLen := by
  rcases h.2 with ⟨h1, h2⟩ | ⟨g, cap, cur, hv, hg, hh, hc, hm, _⟩
  · exact .inl ⟨h1, List.eq_nil_of_length_eq_zero h2⟩
  · exact .inr ⟨g, cap, hv, hg, (Array.getElem?_eq_some_iff.1 hh).1, hc, hm⟩
theorem Own5.nts {B : Nat} (h : Own5 w base e v l) (hB : B ≤ w.heap.size) (hr : ∀ i, i < l.length → Rn w B (nt l i)) : ∃ A n cap, v = .slice A n cap ∧ Nts w w.heap.size A n l ∧ n ≤ cap ∧ cap ≤ 9223372036854775807 := by
  rcases h.form with ⟨rfl, rfl⟩ | ⟨g, cap, rfl, _, hlt, hc, hm⟩
  · exact ⟨none, 0, 0, rfl, Nts.nil_ _ _ _, Nat.le_refl _, by omega⟩
  · refine ⟨_, _, cap, rfl, ⟨rfl, fun _ => ⟨g, 0, rfl, hlt, fun i hi => ?_⟩, fun i hi => (hr i hi).more hB⟩, hc, hm⟩
    have h5 : (five l)[i]? = some ((five l).getD i (.bool false)) := by
      rw [List.getD_eq_getElem?_getD, List.getElem?_eq_getElem (by rw [five_len]; exact hi)]; rfl
    have := World.ownsRow.cells h (g := g) rfl i _ h5
    rw [addr_add] at this
    exact this
theorem Own5.setCell (h : Own5 w base e v l) {a : Addr} (ha : a.block < base) (u : Value) : Own5 (w.setCell a u) base e v l := ownsRow_setCell_below h ha u
theorem Own5.alloc (h : Own5 w base e v l) (o : Obj) : Own5 (w.alloc o) base e v l := World.ownsRow.alloc h o
theorem Own5.base_le (h : Own5 w base e v l) : ∀ k, v.ownBlock = some k → base ≤ k := fun k hk => (World.ownsRow.lt h k hk).1
theorem Own5.fresh0 (w : World) (e : TypeId) (hb : base ≤ w.heap.size) : Own5 (w.alloc (.cells #[] e)) base e (.slice (some ⟨w.heap.size, 0, none⟩) 0 0) [] :=
  ⟨rfl, .inr ⟨w.heap.size, 0, #[], rfl, hb, heap_alloc_new w _, Nat.le_refl _, Nat.zero_le _, rfl, rfl⟩⟩
end
theorem Own5.shape {w : World} {base e : Nat} {v : Value} {l : List Nt} (h : Own5 w base e v l) : ∃ A n cap, v = .slice A n cap := by
  rcases h.form with ⟨rfl, rfl⟩ | ⟨g, cap, rfl, _⟩
  · exact ⟨_, _, _, rfl⟩
  · exact ⟨_, _, _, rfl⟩
theorem nt_app_lt {a b : List Nt} {i : Nat} (h : i < a.length) : nt (a ++ b) i = nt a i := by
  unfold nt; rw [List.getD_eq_getElem?_getD, List.getD_eq_getElem?_getD, List.getElem?_append_left h]
theorem nt_app_at {a : List Nt} {y : Nt} : nt (a ++ [y]) a.length = y := by
  unfold nt; rw [List.getD_eq_getElem?_getD, List.getElem?_append_right (Nat.le_refl _)]; simp
theorem five_one (ns : List Nt) : ∀ u ∈ five ns, u.oneCell' = true := by
  intro u hu
  obtain ⟨y, _, hy⟩ := List.mem_flatMap.1 hu
  simp [Nt.cells] at hy
  rcases hy with rfl | rfl | rfl | rfl | rfl <;> rfl
theorem infoNt : (Try.prog.info? 80).map (fun i => (i.zero, i.size, i.bytes)) = some (some (.agg #[.slice none 0 0, .bool false, .int .i64 0, .int .i64 0, .int .i64 0]), 5, 56) := by kernel_rfl
section
variable {w : World}
theorem wpList_append_5 {ops : Array Oper} {rest : List Oper} {o : Oper} {a : Act} {Q : Exit → Act → World → Prop} (hgd : o.guard = none) (s x : Operand)
    (ho : o.op = .call { callee := .builtin .append, args := #[s, x], argTypes := #[73, 73] })
    (base : Nat) (v : Value) (l : List Nt) (hs : a.eval s = v) (hown : Own5 w base 80 v l)
    (B : Nat) (A : Option Addr) (m c : Nat) (l2 : List Nt) (hx : a.eval x = .slice A m c) (hlen : l2.length = m) (hr : Sl w B A (m * 5) (fun i => (five l2).getD i (.bool false))) (hsum : l.length + m ≤ 1000000) (hbase : base ≤ w.heap.size)
    (h : ∀ v' w', Own5 w' base 80 v' (l ++ l2) → w.grownBy w' v.ownBlock → (v'.ownBlock = v.ownBlock ∨ v'.ownBlock = some w.heap.size) → wpList Try.prog ops Q rest (a.put o.dst v') w') : wpList Try.prog ops Q (o :: rest) a w := by
  obtain ⟨i0, hi, hz0, hz1, hz2⟩ := info_parts infoNt
  refine wpList_append_sl w hgd s x _ ho base _ i0 _ 5 56 Try.underlying73 hi hz0 hz1 hz2 rfl (by decide) v l.length (five l) hs hown B A m c _ (five l2) hx hr (by rw [five_len, hlen]) (fun j u hu => by
    show u = (five l2).getD j _
    rw [List.getD_eq_getElem?_getD, hu]; rfl) (five_one l2) (by unfold maxLen; omega) (by omega) hbase ?_
  intro v' w' h1 h2 h3
  refine h v' w' ?_ h2 h3
  unfold Own5
  rw [List.length_append, hlen, five_append]
  exact h1
end
set_option maxRecDepth 100000 in
set_option maxHeartbeats 800000 in
theorem clone5_any (A : Option Addr) (n cap : Nat) (l : List Nt) (w : World) (hn : n ≤ 1000) (hb : Nts w w.heap.size A n l) :
    Calls Try.prog 69 #[.slice A n cap] w fun e w' => (∃ v, e = .returned v ∧ Own5 w' w.heap.size 80 v l) ∧ Below w.heap.size w w' := by
  have hHb := Lib.hid hb; clear hb
  have hq : ∀ w, (binOp .eql 73 (.slice A n cap) (.slice none 0 0)).run Try.prog w = .ok (.bool A.isNone) w := fun w => by
    simp only [binOp]
    simp [run_equal_slice_nil w 73 80 A n cap Try.underlying73]
  cases A with
  | none =>
    have hl : l = [] := List.eq_nil_of_length_eq_zero (by
      rw [hHb.out.len]
      rcases Nat.eq_zero_or_pos n with h | h
      · exact h
      · obtain ⟨_, _, e, _⟩ := hHb.out.sl (by omega); cases e)
    subst hl
    go_enter Try.func69, Try.ntmps69
    go_wp2
    go_ret
    exact ⟨⟨_, rfl, Own5.nil_ _ _ _⟩, Below.refl _ _⟩
  | some a =>
    go_enter Try.func69, Try.ntmps69
    have HO : Hid (Own5 (w.alloc (.cells #[] 80)) w.heap.size 80 (.slice (some ⟨w.heap.size, 0, none⟩) 0 0) []) := Own5.fresh0 w 80 (Nat.le_refl _)
    have HS : Hid (Nts (w.alloc (.cells #[] 80)) w.heap.size (some a) n l) := hHb.out.alloc (Nat.le_refl _) _
    go_wp2_with ((refine wpList_append_5 (by rfl) (.tmp 5) (.tmp 6) (by rfl) w.heap.size _ [] (by rfl) HO.out w.heap.size (some a) n cap l (by rfl) HS.out.len HS.out.sl (by simp; omega) (by simp) ?_; intro v' w' hown' hgr hat))
    go_ret
    exact ⟨⟨_, rfl, hown'⟩, ((Below.refl _ _).alloc (Nat.le_refl _) _).grown hgr (by simp) (fun g e => by cases e; exact Nat.le_refl _)⟩
theorem Blk.agg3 {w : World} {g : Nat} {t : TypeId} {a0 a1 a2 : Value} (h : Blk w g t #[a0, a1, a2]) (u0 u1 u2 : Value) : Blk (((w.setCell ⟨g, 0, none⟩ u0).setCell ⟨g, 1, none⟩ u1).setCell ⟨g, 2, none⟩ u2) g t #[u0, u1, u2] := ((h.put 0 u0).put 1 u1).put 2 u2
theorem Blk.away3 {w : World} {g : Nat} {t : TypeId} {cs : Array Value} (h : Blk w g t cs) {k : Nat} (hk : g ≠ k) (u0 u1 u2 : Value) : Blk (((w.setCell ⟨k, 0, none⟩ u0).setCell ⟨k, 1, none⟩ u1).setCell ⟨k, 2, none⟩ u2) g t cs := ((h.away hk u0).away hk u1).away hk u2
theorem below_set3 {B : Nat} {a w : World} (h : Below B a w) {k : Nat} (hk : B ≤ k) (u0 u1 u2 : Value) : Below B a (((w.setCell ⟨k, 0, none⟩ u0).setCell ⟨k, 1, none⟩ u1).setCell ⟨k, 2, none⟩ u2) := ((h.setCell hk u0).setCell hk u1).setCell hk u2
/-- What is pushed. -/
noncomputable def psNs (ns : List Nt) (L : Lab) (y : Nt) : List Nt := if saneL L = true ∧ ns.length < 16 then ns ++ [y] else ns
noncomputable def psD (ns : List Nt) (L : Lab) (d : Int) : Int := if saneL L = true ∧ 16 ≤ ns.length then min (d + 1) 9007199254740992 else d
set_option maxRecDepth 100000 in
set_option maxHeartbeats 3200000 in
theorem push_at (v : Value) (d l : Int) (ns : List Nt) (A : Option Addr) (n c : Nat) (L : Lab) (f : Bool) (t : Int) (w : World) (hb : QV w w.heap.size v ns d l) (hp : Prs w w.heap.size A n L) (hnc : n ≤ c) (hc : c ≤ 9223372036854775807) :
    Calls Try.prog 50 #[v, .slice A n c, .bool f, .int .i64 t] w fun e w' => (∃ v', e = .returned v' ∧ QV w' w'.heap.size v' (psNs (cNs ns d l) L ⟨A, n, c, L, f, near t, 0, near t⟩) (psD (cNs ns d l) L (cI ns d l d)) (cI ns d l l)) ∧ Below w.heap.size w w' := by
  have HB := Lib.hid hb
  obtain ⟨A0, n0, c0, rfl, h1, h2, h3⟩ := hb.out; clear h1 hb
  have HP := Lib.hid hp; clear hp
  have hn63 : n ≤ 9223372036854775807 := by omega
  have HC := c_sane ns d l
  obtain ⟨ns1, H1⟩ : ∃ x, Hid (cNs ns d l = x) := ⟨_, Lib.hid rfl⟩
  obtain ⟨d1, H2⟩ : ∃ x, Hid (cI ns d l d = x) := ⟨_, Lib.hid rfl⟩
  obtain ⟨l1, H3⟩ : ∃ x, Hid (cI ns d l l = x) := ⟨_, Lib.hid rfl⟩
  rw [H1.out, H2.out, H3.out] at HC
  have hn16 := HC.1
  have hd1 := timeB_iff.1 HC.2.1
  have HC := Lib.hid HC
  go_enter Try.func50, Try.ntmps50
  go_wp2_with fail
  refine (counted_at w.heap.size _ d l ns _ (by simp; omega) (HB.out.below ?hb0)).mono ?_
  case hb0 => exact ((Below.refl _ _).alloc (Nat.le_refl _) _).alloc (by simp) _
  rintro e w1 ⟨⟨v1, rfl, hq1⟩, hb1⟩
  rw [H1.out, H2.out, H3.out] at hq1
  have hB1 : Below w.heap.size w w1 := (((Below.refl w.heap.size w).alloc (Nat.le_refl _) _).alloc (by simp) _).trans (hb1.mono (by simp; omega))
  have b0 := ((Blk.new w 75 #[.slice A0 n0 c0, .int .i64 d, .int .i64 l]).alloc (.cells #[.slice none 0 0, .int .i64 0, .int .i64 0] 75)).below hb1 (by simp; omega)
  have b1 := (Blk.new (w.alloc (.cells #[.slice A0 n0 c0, .int .i64 d, .int .i64 l] 75)) 75 #[.slice none 0 0, .int .i64 0, .int .i64 0]).below hb1 (by simp)
  simp only [World.size_alloc] at b1
  obtain ⟨A1, n1, c1, rfl, hq1, hnc1, hc1⟩ := hq1.out
  have hlen1 : ns1.length = n1 := hq1.len
  have x0 : w1.frozen? ⟨w.heap.size, 0, none⟩ = false := b0.frozen 0
  have x1 : w1.frozen? ⟨w.heap.size, 1, none⟩ = false := b0.frozen 1
  have x2 : w1.frozen? ⟨w.heap.size, 2, none⟩ = false := b0.frozen 2
  have c0' := b0.agg3 (.slice A1 n1 c1) (.int .i64 d1) (.int .i64 l1)
  have c1' := b1.away3 (k := w.heap.size) (by omega) (.slice A1 n1 c1) (.int .i64 d1) (.int .i64 l1)
  have hB2 := below_set3 hB1 (Nat.le_refl _) (.slice A1 n1 c1) (.int .i64 d1) (.int .i64 l1)
  have hz0 : w1.cell? ⟨w.heap.size, 0, none⟩ = some (.slice A0 n0 c0) := b0.cell 0
  have hz1 : w1.cell? ⟨w.heap.size, 1, none⟩ = some (.int .i64 d) := b0.cell 1
  have hz2 : w1.cell? ⟨w.heap.size, 2, none⟩ = some (.int .i64 l) := b0.cell 2
  have hq1 := Lib.hid hq1
  have hsz1 : w.heap.size + 1 < w1.heap.size := by have := hb1.size; simp at this; omega
  clear hb1 b0 b1
  go_wp2_with fail
  refine (lsane_any A n c L _ hn63 (HP.out.now hB2)).mono ?_
  rintro e w2 ⟨rfl, hb2⟩
  have hB3 := hB2.trans (hb2.mono hB2.size)
  have g0 := c0'.below hb2 c0'.lt
  have g1 := c1'.below hb2 c1'.lt
  have HQ := Lib.hid (((hq1.out.setCell (p := ⟨w.heap.size, 0, none⟩) (Nat.le_refl _) (.slice A1 n1 c1)).setCell (p := ⟨w.heap.size, 1, none⟩) (Nat.le_refl _) (.int .i64 d1)).setCell (p := ⟨w.heap.size, 2, none⟩) (Nat.le_refl _) (.int .i64 l1) |>.below (hb2.mono hB2.size))
  have HP2 := Lib.hid (HP.out.below hB3)
  have hsz2 : w.heap.size + 1 < w2.heap.size := by have := hb2.size; simp at this; omega
  clear hb2 c0' c1' hB2 hz0 hz1 hz2 x0 x1 x2 hB1 hq1
  have p0 : w2.cell? ⟨w.heap.size, 0, none⟩ = some (.slice A1 n1 c1) := g0.cell 0
  have p1 : w2.cell? ⟨w.heap.size, 1, none⟩ = some (.int .i64 d1) := g0.cell 1
  have p2 : w2.cell? ⟨w.heap.size, 2, none⟩ = some (.int .i64 l1) := g0.cell 2
  have r0 : w2.cell? ⟨w.heap.size + 1, 0, none⟩ = some (.slice none 0 0) := g1.cell 0
  have r1 : w2.cell? ⟨w.heap.size + 1, 1, none⟩ = some (.int .i64 0) := g1.cell 1
  have r2 : w2.cell? ⟨w.heap.size + 1, 2, none⟩ = some (.int .i64 0) := g1.cell 2
  have z0 : w2.frozen? ⟨w.heap.size + 1, 0, none⟩ = false := g1.frozen 0
  have z1 : w2.frozen? ⟨w.heap.size + 1, 1, none⟩ = false := g1.frozen 1
  have z2 : w2.frozen? ⟨w.heap.size + 1, 2, none⟩ = false := g1.frozen 2
  have y0 : w2.frozen? ⟨w.heap.size, 0, none⟩ = false := g0.frozen 0
  have y1 : w2.frozen? ⟨w.heap.size, 1, none⟩ = false := g0.frozen 1
  cases hs : saneL L
  · have HE := Lib.hid (show psNs ns1 L ⟨A, n, c, L, f, near t, 0, near t⟩ = ns1 ∧ psD ns1 L d1 = d1 by unfold psNs psD; simp [hs])
    clear g0 g1
    go_wp2
    refine bodyPost_ret (v := .agg #[.slice A1 n1 c1, .int .i64 d1, .int .i64 l1]) (by simp [results, Try.results50, go_sem, r0, r1, r2]) rfl ?_
    refine ⟨⟨_, rfl, ?_⟩, below_set3 hB3 (by omega) _ _ _⟩
    rw [H1.out, H2.out, H3.out, HE.out.1, HE.out.2]
    exact ⟨A1, n1, c1, rfl, (((HQ.out.setCell (by show _ ≤ w.heap.size + 1; omega) _).setCell (by show _ ≤ w.heap.size + 1; omega) _).setCell (by show _ ≤ w.heap.size + 1; omega) _).more (by simp; omega), hnc1, hc1⟩
  by_cases h16 : 16 ≤ n1
  · have HE := Lib.hid (show psNs ns1 L ⟨A, n, c, L, f, near t, 0, near t⟩ = ns1 ∧ psD ns1 L d1 = min (d1 + 1) 9007199254740992 by unfold psNs psD; rw [hs, hlen1]; simp [h16])
    clear g0 g1
    by_cases hd : 9007199254740992 < d1 + 1
    · have HM := Lib.hid (show min (d1 + 1) 9007199254740992 = 9007199254740992 by omega)
      go_wp2
      refine bodyPost_ret (v := .agg #[.slice A1 n1 c1, .int .i64 9007199254740992, .int .i64 l1]) (by simp [results, Try.results50, go_sem, r0, r1, r2]) rfl ?_
      refine ⟨⟨_, rfl, ?_⟩, below_set3 (hB3.setCell (Nat.le_refl _) _) (by omega) _ _ _⟩
      rw [H1.out, H2.out, H3.out, HE.out.1, HE.out.2, HM.out]
      exact ⟨A1, n1, c1, rfl, ((((HQ.out.setCell (Nat.le_refl _) _).setCell (by show _ ≤ w.heap.size + 1; omega) _).setCell (by show _ ≤ w.heap.size + 1; omega) _).setCell (by show _ ≤ w.heap.size + 1; omega) _).more (by simp; omega), hnc1, hc1⟩
    · have HM := Lib.hid (show min (d1 + 1) 9007199254740992 = d1 + 1 by omega)
      go_wp2
      refine bodyPost_ret (v := .agg #[.slice A1 n1 c1, .int .i64 (d1 + 1), .int .i64 l1]) (by simp [results, Try.results50, go_sem, r0, r1, r2]) rfl ?_
      refine ⟨⟨_, rfl, ?_⟩, below_set3 (hB3.setCell (Nat.le_refl _) _) (by omega) _ _ _⟩
      rw [H1.out, H2.out, H3.out, HE.out.1, HE.out.2, HM.out]
      exact ⟨A1, n1, c1, rfl, ((((HQ.out.setCell (Nat.le_refl _) _).setCell (by show _ ≤ w.heap.size + 1; omega) _).setCell (by show _ ≤ w.heap.size + 1; omega) _).setCell (by show _ ≤ w.heap.size + 1; omega) _).more (by simp; omega), hnc1, hc1⟩
  · have HE := Lib.hid (show psNs ns1 L ⟨A, n, c, L, f, near t, 0, near t⟩ = ns1 ++ [⟨A, n, c, L, f, near t, 0, near t⟩] ∧ psD ns1 L d1 = d1 by unfold psNs psD; rw [hs, hlen1]; simp [h16])
    have d16 : decide (16 ≤ n1) = false := decide_eq_false h16
    go_wp2_with fail
    refine (near_any t _).mono ?_
    rintro e w3 ⟨rfl, rfl⟩
    obtain ⟨T, HT⟩ : ∃ T, Hid (near t = T) := ⟨_, Lib.hid rfl⟩
    rw [HT.out] at HE ⊢
    go_wp2_with fail
    refine (clone5_any A1 n1 c1 ns1 _ (by omega) (HQ.out.more (by omega))).mono ?_
    rintro e w4 ⟨⟨v4, rfl, hown4⟩, hb4⟩
    obtain ⟨y, HY⟩ : ∃ y : Nt, Hid ((⟨A, n, c, L, f, T, 0, T⟩ : Nt) = y) := ⟨_, Lib.hid rfl⟩
    rw [HY.out] at HE
    have hsz4 := hb4.size
    have HO := Lib.hid (hown4.alloc (.cells #[.slice A n c, .bool f, .int .i64 T, .int .i64 0, .int .i64 T] 80))
    have HS : Hid (Sl (w4.alloc (.cells #[.slice A n c, .bool f, .int .i64 T, .int .i64 0, .int .i64 T] 80)) (w4.heap.size + 1) (some ⟨w4.heap.size, 0, none⟩) (1 * 5) (fun i => (five [y]).getD i (.bool false))) := by
      refine Lib.hid fun _ => ⟨w4.heap.size, 0, rfl, by omega, fun i hi => ?_⟩
      rw [Nat.zero_add, (Blk.new w4 _ _).cell, ← HY.out]
      match i, hi with
      | 0, _ => rfl
      | 1, _ => rfl
      | 2, _ => rfl
      | 3, _ => rfl
      | 4, _ => rfl
    have GF := Lib.hid (show ∀ w5, (w4.alloc (.cells #[.slice A n c, .bool f, .int .i64 T, .int .i64 0, .int .i64 T] 80)).grownBy w5 v4.ownBlock → Blk w5 w.heap.size 75 #[.slice A1 n1 c1, .int .i64 d1, .int .i64 l1] ∧ Blk w5 (w.heap.size + 1) 75 #[.slice none 0 0, .int .i64 0, .int .i64 0] ∧ Below w.heap.size w3 w5 from fun w5 hg => by
      refine ⟨((g0.below hb4 g0.lt).alloc _).grown hg ?_, ((g1.below hb4 g1.lt).alloc _).grown hg ?_, ((hb4.mono (by omega)).alloc (by omega) _).grown hg (by simp; omega) (fun g e => by have := hown4.base_le g e; omega)⟩
      · intro e; have := hown4.base_le _ e.symm; omega
      · intro e; have := hown4.base_le _ e.symm; omega)
    clear g0 g1 p0 p1 p2 r0 r1 r2 z0 z1 z2 y0 y1
    go_wp2_with ((refine wpList_append_5 (by rfl) (.tmp 29) (.tmp 35) (by rfl) w3.heap.size v4 ns1 (by rfl) HO.out (w4.heap.size + 1) (some ⟨w4.heap.size, 0, none⟩) 1 1 [y] (by rfl) rfl HS.out (by omega) (by simp; omega) ?_; intro v5 w5 hown5 hgr5 hat5; obtain ⟨G0, G1, G2⟩ := GF.out w5 hgr5; have p0 := G0.cell 0; have p1 := G0.cell 1; have p2 := G0.cell 2; have r0 := G1.cell 0; have r1 := G1.cell 1; have r2 := G1.cell 2; have y0 := G0.frozen 0; have z0 := G1.frozen 0; have z1 := G1.frozen 1; have z2 := G1.frozen 2; simp at p0 p1 p2 r0 r1 r2; obtain ⟨A5, n5, c5, rfl⟩ := hown5.shape))
    refine bodyPost_ret (v := .agg #[.slice A5 n5 c5, .int .i64 d1, .int .i64 l1]) (by simp [results, Try.results50, go_sem, r0, r1, r2]) rfl ?_
    have hBF := below_set3 (k := w.heap.size + 1) (G2.setCell (p := ⟨w.heap.size, 0, none⟩) (Nat.le_refl _) (.slice A5 n5 c5)) (by omega) (.slice A5 n5 c5) (.int .i64 d1) (.int .i64 l1)
    refine ⟨⟨_, rfl, ?_⟩, hB3.trans hBF⟩
    rw [H1.out, H2.out, H3.out, HT.out, HY.out, HE.out.1, HE.out.2]
    have hO5 := (((hown5.setCell (a := ⟨w.heap.size, 0, none⟩) (by simp; omega) (.slice A5 n5 c5)).setCell (a := ⟨w.heap.size + 1, 0, none⟩) (by simp; omega) (.slice A5 n5 c5)).setCell (a := ⟨w.heap.size + 1, 1, none⟩) (by simp; omega) (.int .i64 d1)).setCell (a := ⟨w.heap.size + 1, 2, none⟩) (by simp; omega) (.int .i64 l1)
    obtain ⟨A6, n6, c6, e6, hN6, hc6⟩ := hO5.nts (B := w.heap.size) (by have := (hB3.trans hBF).size; omega) (fun i hi => by
      rw [List.length_append] at hi
      by_cases hlt : i < ns1.length
      · rw [nt_app_lt hlt]
        exact (HQ.out.rn i (by omega)).below hBF
      · obtain rfl : i = ns1.length := by simp at hi; omega
        rw [nt_app_at, ← HY.out]
        exact ⟨HP2.out.below hBF, hnc, hc⟩)
    injection e6 with e6 e7 e8
    subst e6 e7 e8
    exact ⟨_, _, _, rfl, hN6, hc6.1, hc6.2⟩
end Go.Proofs.Ytkkbncgnobaliaa
