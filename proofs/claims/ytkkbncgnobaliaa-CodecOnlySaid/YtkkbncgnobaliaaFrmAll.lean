/-
  frame.All: all records that are whole.
-/
import Derived.Test.YtkkbncgnobaliaaFrmR
import Derived.Test.YtkkbncgnobaliaaBel
import Derived.RangeFuncBox
import Derived.Maps.AppendAt
namespace Go.Proofs.Ytkkbncgnobaliaa
open Go.RowKit Go.Shelf
open CodP
open CrcP
set_option linter.unusedVariables false
attribute [local go_sem] Oper.semAt_some
theorem infoSl : (Try.prog.info? 22).map (fun i => (i.zero, i.size, i.bytes)) = some (some (.slice none 0 0), 1, 24) := by kernel_rfl
/-- Slices of octets, in memory that lies below. -/
def RowsB (w0 : World) (vs : List Value) (ps : List (List UInt8)) : Prop := vs.length = ps.length ∧ ∀ i, i < ps.length → ∃ A n c, vs[i]? = some (.slice A n c) ∧ Bs w0 w0.heap.size A n (ps.getD i []) ∧ n ≤ c ∧ c ≤ 9223372036854775807
theorem RowsB.nil_ (w0 : World) : RowsB w0 [] [] := ⟨rfl, fun i hi => absurd hi (Nat.not_lt_zero _)⟩
theorem RowsB.snoc {w0 : World} {vs : List Value} {ps : List (List UInt8)} (h : RowsB w0 vs ps) {A : Option Addr} {n c : Nat} {p : List UInt8} (hb : Bs w0 w0.heap.size A n p) (h1 : n ≤ c) (h2 : c ≤ 9223372036854775807) : RowsB w0 (vs ++ [.slice A n c]) (ps ++ [p]) := by
  refine ⟨by simp [h.1], fun i hi => ?_⟩
  by_cases hlt : i < ps.length
  · obtain ⟨A', n', c', e, r⟩ := h.2 i hlt
    refine ⟨A', n', c', ?_, ?_⟩
    · rw [List.getElem?_append_left (by rw [h.1]; exact hlt)]; exact e
    · rw [List.getD_eq_getElem?_getD, List.getElem?_append_left hlt, ← List.getD_eq_getElem?_getD]; exact r
  · have e : i = ps.length := by simp at hi; omega
    subst e
    refine ⟨A, n, c, ?_, ?_⟩
    · rw [List.getElem?_append_right (by rw [h.1]; omega), h.1]; simp
    · rw [List.getD_eq_getElem?_getD, List.getElem?_append_right (by omega)]; simpa using ⟨hb, h1, h2⟩
/-- Between two rounds. -/
structure AllJ (w0 : World) (nb n : Nat) (bv : Value) (L K : Nat) (lo : Loop) (pre : List (List UInt8)) (k : Nat) (W : World) : Prop where
  box : ∃ v vs, Boxed W (w0.heap.size + 1) 31 v ∧ W.ownsRow nb 22 1 v vs.length vs ∧ RowsB w0 vs pre
  cnt : Boxed W (w0.heap.size + 1 + 1) 3 (.int .i64 ((n - k : Nat) : Int))
  err : Boxed W (w0.heap.size + 1 + 1 + 1) 27 (.int .i64 0)
  b : Boxed W w0.heap.size 22 bv
  c1 : Boxed W (w0.heap.size + 1 + 1 + 1 + 1) 22 bv
  c2 : Boxed W (w0.heap.size + 1 + 1 + 1 + 1 + 1) 98 (.pointer (some ⟨w0.heap.size + 1 + 1 + 1, 0, none⟩))
  lrec : W.heap[L]? = some (.loop lo)
  dfr : W.heap[K]? = some (.deferred (some []))
  below : Below w0.heap.size w0 W
  few : pre.length + k ≤ n
theorem boxed_below {W W' : World} {B : Nat} {t : TypeId} {v : Value} (h : Boxed W B t v) (hb : Below W.heap.size W W') : Boxed W' B t v := (hb.block B h.lt).trans h
theorem AllJ.now {w0 : World} {nb n : Nat} {bv : Value} {L K : Nat} {lo : Loop} {pre : List (List UInt8)} {k : Nat} {W W' : World} (h : AllJ w0 nb n bv L K lo pre k W) (hb : Below W.heap.size W W') : AllJ w0 nb n bv L K lo pre k W' := by
  obtain ⟨v, vs, h1, h2, h3⟩ := h.box
  have hlt : ∀ {j : Nat} {o : Obj}, W.heap[j]? = some o → W'.heap[j]? = some o := fun hj => (hb.block _ (Array.getElem?_eq_some_iff.1 hj).1).trans hj
  refine ⟨⟨v, vs, boxed_below h1 hb, ?_, h3⟩, boxed_below h.cnt hb, boxed_below h.err hb, boxed_below h.b hb, boxed_below h.c1 hb, boxed_below h.c2 hb, hlt h.lrec, hlt h.dfr, h.below.trans (hb.mono h.below.size), h.few⟩
  refine h2.kept (row := none) ⟨hb.os, hb.tape, hb.output, hb.size, fun k hk _ => hb.block k hk⟩ ?_
  rcases h2.2 with ⟨rfl, _⟩ | ⟨g, cap, cur, rfl, _⟩
  · exact .inl rfl
  · exact .inr (by simp [Value.ownBlock])
section
variable {F : Fence} {n : Nat} {P : Program}
/-- The statement 'for .. := range g', its record under a name. -/
theorem wpIn_rf {g : Operand} {ps : Array Tmp} {assign body : Code} {Q : Exit → Act → World → Prop} {a : Act} {w : World} (hro : F.round = none) (h1 : 1 ≤ n) (gf : Nat) (lb : Array Value)
    (hg : a.eval g = .func (.func gf) #[] lb) (hFg : F.fn gf) (eg : ∀ args w, (callFunc gf args).run P w = .ok (.enter gf args) w)
    (h : ∀ fn, F.fn fn → ∀ lo : LoopState → Option Code → Loop, (lo = fun st pe => { state := st, pending := pe, fn, tmps := a.tmps, params := ps, assign, body, defers := w.heap.size }) →
      CallsIn F (n - 1) P gf (#[.func (.yield (w.heap.size + 1)) #[] #[]] ++ lb) ((w.alloc (.deferred (some []))).alloc (.loop (lo .ready none))) (rangePost F n P (w.heap.size + 1) Q { a with defers := { target := .collected w.heap.size, args := #[] } :: a.defers })) :
    (Code.rangeFunc g ps assign body).wpIn F n P Q a w := by
  refine wpIn_rangeFunc fun fn hfn => ?_
  have hc := h fn hfn _ rfl
  have he := run_enterLoop_outer (P := P) (w := w) fn a.tmps ps assign body
  rw [hro]
  generalize (w.alloc (.deferred (some []))).alloc (.loop { state := .ready, pending := none, fn, tmps := a.tmps, params := ps, assign, body, defers := w.heap.size }) = W1 at hc he
  refine ⟨_, _, W1, { target := .fn (.func gf) lb, args := #[.func (.yield (w.heap.size + 1)) #[] #[]] }, W1, gf, _, W1, he, ?_, ?_, ?_, fun _ => h1, hc⟩
  · simp only [resolve, hg]
    simp [go_sem]
  · intro f' hf'; simp [Target.leads] at hf'; subst hf'; exact hFg
  · simp [invoke, go_sem, eg]
end
theorem row_off {W : World} {base : Nat} {e : TypeId} {size : Nat} {v : Value} {k : Nat} {xs : List Value} (h : W.ownsRow base e size v k xs) {j : Nat} {o : Obj} (hj : W.heap[j]? = some o) (ho : o.isCells = false) : some j ≠ v.ownBlock := by
  rcases h.2 with ⟨rfl, _⟩ | ⟨g, cap, cur, rfl, _, hgb, _⟩
  · simp [Value.ownBlock]
  · intro e'
    obtain rfl : j = g := by simpa [Value.ownBlock] using e'
    rw [hj] at hgb; cases hgb; cases ho
theorem row_base {W : World} {base : Nat} {e : TypeId} {size : Nat} {v : Value} {k : Nat} {xs : List Value} (h : W.ownsRow base e size v k xs) {j : Nat} (hj : j < base) : some j ≠ v.ownBlock := by
  intro e'
  have := (World.ownsRow.lt h j e'.symm).1
  omega
theorem or_ne {a : Option Nat} {j : Nat} (h : some j ≠ a) : a = none ∨ a ≠ some j := .inr fun e => h e.symm
/-- What is told of all. -/
def GotAll (w0 w' : World) (n : Nat) (e : Ending) (x : List (List UInt8) × List UInt8 × Nat) : Prop :=
  ∃ v vs, e = .returned (.tuple #[v, .int .i64 ((n - x.2.1.length : Nat) : Int), .int .i64 (x.2.2 : Nat)]) ∧ Own1 w' w0.heap.size 22 id v vs ∧ RowsB w0 vs x.1
set_option maxRecDepth 100000 in
set_option maxHeartbeats 4000000 in
theorem all_any (A : Option Addr) (n cap : Nat) (l : List UInt8) (w : World) (hn : n ≤ 1000000) (hcn : n ≤ cap) (hcap : cap ≤ 9223372036854775807) (hb : Bs w w.heap.size A n l) :
    Calls Try.prog 26 #[.slice A n cap] w fun e w' => GotAll w w' n e (allF l) ∧ Below w.heap.size w w' := by
  have HB := Lib.hid hb; clear hb
  refine (callsIn_wide (n := 3)).1 ?_
  refine callsIn_of_wp_marks Try.func26 rfl trivial ?_ rfl
  simp only [Try.ntmps26, List.size_toArray, List.length_cons, List.length_nil, Nat.reduceAdd, Nat.reduceSub, Array.replicate_succ, Array.replicate_zero, List.push_toArray, List.append_toArray, List.nil_append, List.cons_append]
  gi_wp2_with (refine ⟨trivial, ?_⟩; gi_at_call 59; refine (callsIn_wide.2 (frecords_any A n cap _ _)).mono ?_; rintro e w' ⟨rfl, rfl⟩)
  have X1 := Boxed.new w 22 (.slice A n cap)
  have X2 := Boxed.new (w.alloc (.cells #[.slice A n cap] 22)) 31 (.slice none 0 0)
  have X3 := Boxed.new ((w.alloc (.cells #[.slice A n cap] 22)).alloc (.cells #[.slice none 0 0] 31)) 3 (.int .i64 0)
  have X4 := Boxed.new (((w.alloc (.cells #[.slice A n cap] 22)).alloc (.cells #[.slice none 0 0] 31)).alloc (.cells #[.int .i64 0] 3)) 27 (.int .i64 0)
  have X5 := Boxed.new ((((w.alloc (.cells #[.slice A n cap] 22)).alloc (.cells #[.slice none 0 0] 31)).alloc (.cells #[.int .i64 0] 3)).alloc (.cells #[.int .i64 0] 27)) 22 (.slice A n cap)
  have X6 := Boxed.new (((((w.alloc (.cells #[.slice A n cap] 22)).alloc (.cells #[.slice none 0 0] 31)).alloc (.cells #[.int .i64 0] 3)).alloc (.cells #[.int .i64 0] 27)).alloc (.cells #[.slice A n cap] 22)) 98 (.pointer (some ⟨w.heap.size + 1 + 1 + 1, 0, none⟩))
  simp only [World.size_alloc] at X2 X3 X4 X5 X6
  replace X1 := ((((X1.alloc (.cells #[.slice none 0 0] 31)).alloc (.cells #[.int .i64 0] 3)).alloc (.cells #[.int .i64 0] 27)).alloc (.cells #[.slice A n cap] 22)).alloc (.cells #[.pointer (some ⟨w.heap.size + 1 + 1 + 1, 0, none⟩)] 98)
  replace X2 := (((X2.alloc (.cells #[.int .i64 0] 3)).alloc (.cells #[.int .i64 0] 27)).alloc (.cells #[.slice A n cap] 22)).alloc (.cells #[.pointer (some ⟨w.heap.size + 1 + 1 + 1, 0, none⟩)] 98)
  replace X3 := ((X3.alloc (.cells #[.int .i64 0] 27)).alloc (.cells #[.slice A n cap] 22)).alloc (.cells #[.pointer (some ⟨w.heap.size + 1 + 1 + 1, 0, none⟩)] 98)
  replace X4 := (X4.alloc (.cells #[.slice A n cap] 22)).alloc (.cells #[.pointer (some ⟨w.heap.size + 1 + 1 + 1, 0, none⟩)] 98)
  replace X5 := X5.alloc (.cells #[.pointer (some ⟨w.heap.size + 1 + 1 + 1, 0, none⟩)] 98)
  have hbX : Below w.heap.size w ((((((w.alloc (.cells #[.slice A n cap] 22)).alloc (.cells #[.slice none 0 0] 31)).alloc (.cells #[.int .i64 0] 3)).alloc (.cells #[.int .i64 0] 27)).alloc (.cells #[.slice A n cap] 22)).alloc (.cells #[.pointer (some ⟨w.heap.size + 1 + 1 + 1, 0, none⟩)] 98)) :=
    ((((((Below.refl _ w).alloc (Nat.le_refl _) _).alloc (by simp) _).alloc (by simp; omega) _).alloc (by simp; omega) _).alloc (by simp; omega) _).alloc (by simp; omega) _
  have hsX : ((((((w.alloc (.cells #[.slice A n cap] 22)).alloc (.cells #[.slice none 0 0] 31)).alloc (.cells #[.int .i64 0] 3)).alloc (.cells #[.int .i64 0] 27)).alloc (.cells #[.slice A n cap] 22)).alloc (.cells #[.pointer (some ⟨w.heap.size + 1 + 1 + 1, 0, none⟩)] 98)).heap.size ≥ w.heap.size + 6 := by simp
  generalize ((((((w.alloc (.cells #[.slice A n cap] 22)).alloc (.cells #[.slice none 0 0] 31)).alloc (.cells #[.int .i64 0] 3)).alloc (.cells #[.int .i64 0] 27)).alloc (.cells #[.slice A n cap] 22)).alloc (.cells #[.pointer (some ⟨w.heap.size + 1 + 1 + 1, 0, none⟩)] 98)) = W0 at X1 X2 X3 X4 X5 X6 hbX hsX ⊢
  refine wpIn_rf rfl (by omega) 72 #[.pointer (some ⟨w.heap.size + 1 + 1 + 1 + 1, 0, none⟩), .pointer (some ⟨w.heap.size + 1 + 1 + 1 + 1 + 1, 0, none⟩)] rfl trivial (enters_of Try.func72 (by kernel_rfl) rfl) fun fn hfn lo hlo => ?_
  refine (frec1 2 (by omega) (W0.heap.size + 1) (w.heap.size + 1 + 1 + 1 + 1) (w.heap.size + 1 + 1 + 1 + 1 + 1) (w.heap.size + 1 + 1 + 1) A n cap l w (by omega) hcn hcap HB.out
    (AllJ w W0.heap.size n (.slice A n cap) (W0.heap.size + 1) W0.heap.size (lo .ready none)) (fun _ _ _ h => h.below) (fun _ _ _ _ h hb => h.now hb) (fun _ _ _ h => ⟨h.c1.cell, h.c2.cell, h.err.cell, h.err.frozen⟩) ?hY _ ?h0).mono ?_
  case h0 =>
    refine ⟨⟨.slice none 0 0, [], (X2.alloc _).alloc _, World.ownsRow_nil _ _ _ _, RowsB.nil_ w⟩, ?_, (X4.alloc _).alloc _, (X1.alloc _).alloc _, (X5.alloc _).alloc _, (X6.alloc _).alloc _, ?_, ?_, (hbX.alloc hbX.size _).alloc (by have := hbX.size; simp; omega) _, by simp⟩
    · rw [Nat.sub_self]; exact (X3.alloc _).alloc _
    · have := World.alloc_heap_new (W0.alloc (.deferred (some []))) (.loop (lo .ready none)); rwa [World.size_alloc] at this
    · exact (Below.heap_alloc _ _ _ (by simp)).trans (World.alloc_heap_new W0 _)
  case hY =>
    intro pre k W A1 n1 c1 A2 n2 c2 p r hJ hlt hp h1 h2 hr
    obtain ⟨v, vs, hv, hrow, hrows⟩ := hJ.box
    have hROWS := Lib.hid (hrows.snoc hp h1 h2)
    have hvl : vs.length ≤ pre.length := Nat.le_of_eq hrows.1
    have HVL := Lib.hid hrows.1
    have hfew := hJ.few
    have hy := run_yield (P := Try.prog) (args := #[.slice A1 n1 c1, .slice A2 n2 c2]) hJ.lrec (by rw [hlo]; rfl)
    rw [hlo] at hy
    refine ⟨_, _, _, _, hy, roundIn_of_wpIn hfn ?_⟩
    have hbr := run_beginRound (P := Try.prog) hJ.lrec (by rw [hlo])
    have hL0 : W0.heap.size + 1 < W.heap.size := (Array.getElem?_eq_some_iff.1 hJ.lrec).1
    have L2 : (W.putObj (W0.heap.size + 1) (.loop { lo .ready none with state := .busy })).heap[W0.heap.size + 1]? = some (.loop { lo .ready none with state := .busy }) := World.putObj_heap_same hL0
    have hg2 := grownBy_putObj' W (W0.heap.size + 1) (.loop { lo .ready none with state := .busy })
    generalize W.putObj (W0.heap.size + 1) (.loop { lo .ready none with state := .busy }) = W2 at hbr L2 hg2
    have v2 := hv.kept hg2 (by simp; omega)
    have n2' := hJ.cnt.kept hg2 (by simp; omega)
    have e2 := hJ.err.kept hg2 (by simp; omega)
    have b2 := hJ.b.kept hg2 (by simp; omega)
    have d2 := hJ.c1.kept hg2 (by simp; omega)
    have f2 := hJ.c2.kept hg2 (by simp; omega)
    have K2 := (hg2.block W0.heap.size (by omega) (by simp)).trans hJ.dfr
    have row2 := hrow.kept hg2 (or_ne (row_off hrow hJ.lrec rfl))
    have bel2 : Below w.heap.size w W2 := hJ.below.grown hg2 hJ.below.size (fun k e => by cases e; omega)
    have hz2 : W0.heap.size + 1 < W2.heap.size := (Array.getElem?_eq_some_iff.1 L2).1
    obtain ⟨i0, hi, hz0, hz1, hz2'⟩ := info_parts infoSl
    have vc2 := v2.cell
    have HLO := Lib.hid hlo
    clear hv hrow hrows hy hg2 hL0 hlo
    gi_wp2
    refine ⟨W2, hbr, ?_⟩
    clear hbr
    gi_wp2_with (gi_at_builtin; refine wpListIn_append_own _ rfl _ _ 31 rfl W0.heap.size 22 i0 (.slice none 0 0) 1 24 Try.underlying31 hi hz0 hz1 hz2' rfl (by decide) _ _ _ rfl (row2.alloc _) ⟨W2.heap.size, 0, none⟩ 1 1 [.slice A1 n1 c1] rfl rfl (cell_one_new _ _ _) (by simp [Value.oneCell']) (by unfold maxLen; omega) (by omega) (by simp; omega) ?_)
    intro v' w3 hown' hgrow hnil'
    obtain ⟨g', cap', rfl⟩ := ownsRow_succ hown'
    have keep : ∀ {j : Nat} {o : Obj}, j < W0.heap.size → W2.heap[j]? = some o → w3.heap[j]? = some o := fun {j o} hj ho => (hgrow.block j (by simp; omega) (row_base row2 hj)).trans ((Below.heap_alloc _ _ j (by omega)).trans ho)
    have v3 : Boxed w3 (w.heap.size + 1) 31 v := keep (by omega) v2
    have n3' : Boxed w3 (w.heap.size + 1 + 1) 3 _ := keep (by omega) n2'
    have e3 : Boxed w3 (w.heap.size + 1 + 1 + 1) 27 _ := keep (by omega) e2
    have b3 : Boxed w3 w.heap.size 22 _ := keep (by omega) b2
    have d3 : Boxed w3 (w.heap.size + 1 + 1 + 1 + 1) 22 _ := keep (by omega) d2
    have f3 : Boxed w3 (w.heap.size + 1 + 1 + 1 + 1 + 1) 98 _ := keep (by omega) f2
    have K3 : w3.heap[W0.heap.size]? = some (.deferred (some [])) := (hgrow.block _ (by simp; omega) (row_off row2 K2 rfl)).trans ((Below.heap_alloc _ _ _ (by omega)).trans K2)
    have L3 : w3.heap[W0.heap.size + 1]? = some (.loop { lo .ready none with state := .busy }) := (hgrow.block _ (by simp; omega) (row_off row2 L2 rfl)).trans ((Below.heap_alloc _ _ _ (by omega)).trans L2)
    have bel3 : Below w.heap.size w w3 := (bel2.alloc bel2.size _).grown hgrow (by simp; omega) (fun k e => by have := (World.ownsRow.lt row2 k e).1; omega)
    have hz3 : W0.heap.size + 1 < w3.heap.size := (Array.getElem?_eq_some_iff.1 L3).1
    have c31 := v3.cell
    have c32 := v3.frozen
    have hg4 := grownBy_setCell' w3 (w.heap.size + 1) (.slice (some ⟨g', 0, none⟩) (vs.length + 1) cap')
    have b4 := b3.kept hg4 (by simp)
    have n4' := n3'.kept hg4 (by simp)
    have c41 := b4.cell
    have c42 := n4'.cell
    have c43 := n4'.frozen
    clear keep hgrow row2 v2 n2' e2 b2 d2 f2 K2 L2 bel2 vc2
    gi_wp2
    have hg5 := grownBy_setCell' (w3.setCell ⟨w.heap.size + 1, 0, none⟩ (.slice (some ⟨g', 0, none⟩) (vs.length + 1) cap')) (w.heap.size + 1 + 1) (.int .i64 ((n : Int) - (n2 : Int)))
    have hg45 : ∀ {j : Nat} {o : Obj}, j ≠ w.heap.size + 1 → j ≠ w.heap.size + 1 + 1 → w3.heap[j]? = some o → ((w3.setCell ⟨w.heap.size + 1, 0, none⟩ (.slice (some ⟨g', 0, none⟩) (vs.length + 1) cap')).setCell ⟨w.heap.size + 1 + 1, 0, none⟩ (.int .i64 ((n : Int) - (n2 : Int)))).heap[j]? = some o :=
      fun {j o} h1 h2 ho => (Below.heap_setCell _ _ _ j h2).trans ((Below.heap_setCell _ _ _ j h1).trans ho)
    have v5 : Boxed ((w3.setCell ⟨w.heap.size + 1, 0, none⟩ (.slice (some ⟨g', 0, none⟩) (vs.length + 1) cap')).setCell ⟨w.heap.size + 1 + 1, 0, none⟩ (.int .i64 ((n : Int) - (n2 : Int)))) (w.heap.size + 1) 31 (.slice (some ⟨g', 0, none⟩) (vs.length + 1) cap') := (v3.set _).kept hg5 (by simp)
    have n5' : Boxed ((w3.setCell ⟨w.heap.size + 1, 0, none⟩ (.slice (some ⟨g', 0, none⟩) (vs.length + 1) cap')).setCell ⟨w.heap.size + 1 + 1, 0, none⟩ (.int .i64 ((n : Int) - (n2 : Int)))) (w.heap.size + 1 + 1) 3 (.int .i64 ((n : Int) - (n2 : Int))) := n4'.set _
    have e5 : Boxed _ _ _ _ := hg45 (by omega) (by omega) e3
    have b5 : Boxed _ _ _ _ := hg45 (by omega) (by omega) b3
    have d5 : Boxed _ _ _ _ := hg45 (by omega) (by omega) d3
    have f5 : Boxed _ _ _ _ := hg45 (by omega) (by omega) f3
    have K5 := hg45 (by omega) (by omega) K3
    have L5 := hg45 (by omega) (by omega) L3
    have row5 := (hown'.kept hg4 (or_ne (row_base hown' (by omega)))).kept hg5 (or_ne (row_base hown' (by omega)))
    have bel5 : Below w.heap.size w ((w3.setCell ⟨w.heap.size + 1, 0, none⟩ (.slice (some ⟨g', 0, none⟩) (vs.length + 1) cap')).setCell ⟨w.heap.size + 1 + 1, 0, none⟩ (.int .i64 ((n : Int) - (n2 : Int)))) := (bel3.setCell (p := ⟨w.heap.size + 1, 0, none⟩) (show w.heap.size ≤ w.heap.size + 1 by omega) _).setCell (p := ⟨w.heap.size + 1 + 1, 0, none⟩) (show w.heap.size ≤ w.heap.size + 1 + 1 by omega) _
    generalize ((w3.setCell ⟨w.heap.size + 1, 0, none⟩ (.slice (some ⟨g', 0, none⟩) (vs.length + 1) cap')).setCell ⟨w.heap.size + 1 + 1, 0, none⟩ (.int .i64 ((n : Int) - (n2 : Int)))) = W5 at v5 n5' e5 b5 d5 f5 K5 L5 row5 bel5 ⊢
    refine ⟨_, _, run_endRound none L5, rfl, ?_⟩
    have hg6 := grownBy_putObj' W5 (W0.heap.size + 1) (.loop (lo .ready none))
    have hlo6 : ({ { lo .ready none with state := .busy } with state := if (none : Option Code).isNone = true then .ready else .done, pending := none } : Loop) = lo .ready none := by rw [HLO.out]; rfl
    rw [hlo6]
    have hz5 : W0.heap.size + 1 < W5.heap.size := (Array.getElem?_eq_some_iff.1 L5).1
    refine ⟨⟨_, _, v5.kept hg6 (by simp; omega), ?_, hROWS.out⟩, ?_, e5.kept hg6 (by simp; omega), b5.kept hg6 (by simp; omega), d5.kept hg6 (by simp; omega), f5.kept hg6 (by simp; omega), World.putObj_heap_same hz5, (hg6.block _ (by omega) (by simp)).trans K5, bel5.grown hg6 bel5.size (fun k e => by cases e; omega), by simp; omega⟩
    · have := row5.kept hg6 (or_ne (row_off row5 L5 rfl))
      rw [List.length_append]
      exact this
    · have e1 : ((n - n2 : Nat) : Int) = (n : Int) - (n2 : Int) := by omega
      rw [e1]
      exact n5'.kept hg6 (by simp; omega)
  rintro e W2 ⟨⟨v, rfl⟩, W1, hJ, hW2⟩
  obtain ⟨v', vs, hv, hrow, hrows⟩ := hJ.box
  have HROWS := Lib.hid hrows
  have hg : W1.grownBy W2 (some (w.heap.size + 1 + 1 + 1)) := by
    rw [hW2]; split
    · exact World.grownBy.refl _ _
    · exact grownBy_setCell' _ _ _
  have e2 : Boxed W2 (w.heap.size + 1 + 1 + 1) 27 (.int .i64 ((allF l).2.2 : Nat)) := by
    rw [hW2]; split
    · rename_i h0; rw [h0]; exact hJ.err
    · exact hJ.err.set _
  have HFEW := Lib.hid hJ.few
  have v2 := hv.kept hg (by simp)
  have n2 := hJ.cnt.kept hg (by simp)
  have L2 := (hg.block _ (Array.getElem?_eq_some_iff.1 hJ.lrec).1 (by simp; omega)).trans hJ.lrec
  have K2 := (hg.block _ (Array.getElem?_eq_some_iff.1 hJ.dfr).1 (by simp; omega)).trans hJ.dfr
  have row2 := hrow.kept hg (or_ne (row_base hrow (by omega)))
  have bel2 : Below w.heap.size w W2 := hJ.below.grown hg hJ.below.size (fun k e => by cases e; omega)
  have hend := run_endLoop (P := Try.prog) L2 (by rw [hlo]; simp)
  have hz2 : W0.heap.size + 1 < W2.heap.size := (Array.getElem?_eq_some_iff.1 L2).1
  have hg3 := grownBy_putObj' W2 (W0.heap.size + 1) (.loop { lo .ready none with state := .exhausted })
  have v3 := v2.kept hg3 (by simp; omega)
  have n3 := n2.kept hg3 (by simp; omega)
  have e3 := e2.kept hg3 (by simp; omega)
  have K3 := (hg3.block W0.heap.size (by omega) (by simp)).trans K2
  have row3 := row2.kept hg3 (or_ne (row_off row2 L2 rfl))
  have bel3 : Below w.heap.size w (W2.putObj (W0.heap.size + 1) (.loop { lo .ready none with state := .exhausted })) := bel2.grown hg3 bel2.size (fun k e => by cases e; omega)
  generalize W2.putObj (W0.heap.size + 1) (.loop { lo .ready none with state := .exhausted }) = W3 at hend hg3 v3 n3 e3 K3 row3 bel3
  refine ⟨none, W3, by have h := hend; rw [hlo] at h; exact h, ?_⟩
  have hz3 : W0.heap.size < W3.heap.size := (Array.getElem?_eq_some_iff.1 K3).1
  have vc : ∀ p : Bel W3, p.now.cell? ⟨w.heap.size + 1, 0, none⟩ = some v' := fun p => p.cell (by show w.heap.size + 1 < _; omega) v3.cell
  have nc : ∀ p : Bel W3, p.now.cell? ⟨w.heap.size + 1 + 1, 0, none⟩ = some (.int .i64 ((n - (allF l).2.1.length : Nat) : Int)) := fun p => p.cell (by show w.heap.size + 1 + 1 < _; omega) n3.cell
  have ec : ∀ p : Bel W3, p.now.cell? ⟨w.heap.size + 1 + 1 + 1, 0, none⟩ = some (.int .i64 ((allF l).2.2 : Nat)) := fun p => p.cell (by show w.heap.size + 1 + 1 + 1 < _; omega) e3.cell
  clear hend hg3 hg v2 n2 e2 K2 L2 row2 bel2 hW2 hJ hv hrow hrows v3 n3 e3
  generalize hx : allF l = x at HROWS HFEW vc nc ec
  have HX := Lib.hid hx; clear hx
  obtain ⟨ps, q, c⟩ := x
  generalize hnq : (n - q.length : Nat) = nq at *
  have HNQ := Lib.hid hnq; clear hnq
  have HK3 := Lib.hid K3
  gi_wp2
  refine wpIn_wide.2 ?_
  refine wp_region_bel (by kernel_rfl) (by kernel_rfl) ?_
  repeat (
    refine WQ.step (fun KK hKK => ?_)
    go_simp
    refine hKK _ ?_; clear hKK KK)
  refine WQ.nil_ ?_
  rintro wq1 ⟨⟨wq, hq⟩, hwq⟩
  obtain rfl : wq = wq1 := hwq.symm
  clear hwq
  have hK4 := (hq.block W0.heap.size hz3).trans HK3.out
  have row4 := row3.kept (row := none) ⟨hq.os, hq.tape, hq.output, hq.size, fun k hk _ => hq.block k hk⟩ (by
    rcases row3.2 with ⟨rfl, _⟩ | ⟨g, cap, cur, rfl, _⟩
    · exact .inl rfl
    · exact .inr (by simp [Value.ownBlock]))
  have bel4 := bel3.trans (hq.mono bel3.size)
  clear vc nc ec
  gi_wp2
  refine ⟨by simp, .inl ⟨_, _, rfl, run_takeDeferred hK4, ?_⟩⟩
  refine ⟨.tuple #[v', .int .i64 (nq : Int), .int .i64 (c : Int)], by simp [results, Try.results26, go_sem], ?_, ?_⟩
  · rw [HX.out]
    have row5 := ownsRow_putObj row4 (.deferred none) hK4 rfl
    refine ⟨v', vs, ?_, ?_, HROWS.out⟩
    · show _ = Ending.returned (.tuple #[v', .int .i64 ((n - q.length : Nat) : Int), .int .i64 (c : Int)])
      rw [HNQ.out]
    · refine Own1.less (base := W0.heap.size) ?_ (by omega)
      unfold Own1
      rw [List.map_id]
      exact row5
  · exact bel4.grown (grownBy_putObj' wq W0.heap.size (.deferred none)) bel4.size (fun k e => by cases e; omega)
end Go.Proofs.Ytkkbncgnobaliaa
