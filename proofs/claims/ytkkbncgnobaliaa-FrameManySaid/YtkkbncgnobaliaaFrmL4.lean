/-
  FrameMany's walk.
-/
import Derived.Test.YtkkbncgnobaliaaFrmL3
namespace Go.Proofs.Ytkkbncgnobaliaa
open Go.RowKit
open CodP
open CrcP
set_option linter.unusedVariables false
theorem RowsB.append {w0 : World} {vs us : List Value} {ps qs : List (List UInt8)} (h : RowsB w0 vs ps) (k : RowsB w0 us qs) : RowsB w0 (vs ++ us) (ps ++ qs) := by
  refine ⟨by simp [h.1, k.1], fun i hi => ?_⟩
  by_cases hlt : i < ps.length
  · obtain ⟨A', n', c', e, r⟩ := h.2 i hlt
    refine ⟨A', n', c', ?_, ?_⟩
    · rw [List.getElem?_append_left (by rw [h.1]; exact hlt)]; exact e
    · rw [List.getD_eq_getElem?_getD, List.getElem?_append_left hlt, ← List.getD_eq_getElem?_getD]; exact r
  · obtain ⟨A', n', c', e, r⟩ := k.2 (i - ps.length) (by simp at hi; omega)
    refine ⟨A', n', c', ?_, ?_⟩
    · rw [List.getElem?_append_right (by rw [h.1]; omega), h.1]; exact e
    · rw [List.getD_eq_getElem?_getD, List.getElem?_append_right (by omega), ← List.getD_eq_getElem?_getD]; exact r
theorem RowsB.now {w w' : World} {vs : List Value} {ps : List (List UInt8)} (h : RowsB w vs ps) (hb : Below w.heap.size w w') : RowsB w' vs ps := by
  refine ⟨h.1, fun i hi => ?_⟩
  obtain ⟨A', n', c', e, b, r⟩ := h.2 i hi
  exact ⟨A', n', c', e, b.now hb, r⟩
theorem wpList_append_rws {P : Program} {w : World} {ops : Array Oper} {rest : List Oper} {o : Oper} {a : Act} {Q : Exit → Act → World → Prop} (hgd : o.guard = none) (s x : Operand) (t : TypeId)
    (ho : o.op = .call { callee := .builtin .append, args := #[s, x], argTypes := #[t, t] })
    (base : Nat) (e : TypeId) (ht : P.underlying t = some (.slice e)) (hi : (P.info? e).map (fun i => (i.zero, i.size, i.bytes)) = some (some (.slice none 0 0), 1, 24))
    (v : Value) (xs : List Value) (hs : a.eval s = v) (hown : Own1 w base e id v xs) (A : Option Addr) (m c : Nat) (ps : List (List UInt8)) (hx : a.eval x = .slice A m c) (w0 : World) (hr : Rws w0 A m ps) (hb0 : Below w0.heap.size w0 w)
    (hsum : xs.length + m ≤ 1000000) (hbase : base ≤ w.heap.size)
    (h : ∀ v' w' ys, Own1 w' base e id v' (xs ++ ys) → RowsB w0 ys ps → w.grownBy w' v.ownBlock → wpList P ops Q rest (a.put o.dst v') w') : wpList P ops Q (o :: rest) a w := by
  obtain ⟨i0, hi, hz0, hz1, hz2⟩ := info_parts hi
  obtain ⟨vs, h1, h2⟩ := hr.out
  refine wpList_append_sl w hgd s x t ho base e i0 (.slice none 0 0) 1 24 ht hi hz0 hz1 hz2 rfl (by decide) v xs.length (xs.map id) hs hown w0.heap.size A m c vs ((List.range m).map vs) hx (by rw [Nat.mul_one]; exact h1.below hb0) (by simp) ?_ ?_ (by unfold maxLen; omega) (by omega) hbase ?_
  · intro j u hu
    rw [List.getElem?_map] at hu
    obtain ⟨k, hk, rfl⟩ := Option.map_eq_some_iff.1 hu
    obtain ⟨hj, rfl⟩ := List.getElem?_eq_some_iff.1 hk
    simp
  · intro u hu
    obtain ⟨k, hk, rfl⟩ := List.mem_map.1 hu
    obtain ⟨A', n', c', e, -⟩ := h2 k (List.mem_range.1 hk)
    rw [e]; rfl
  · intro v' w' h3 h4 _
    refine h v' w' ((List.range m).map vs) ?_ ⟨by simp [hr.len], fun i hi => ?_⟩ h4
    · unfold Own1
      simpa using h3
    · have him : i < m := by rw [← hr.len]; exact hi
      obtain ⟨A', n', c', e, r⟩ := h2 i him
      exact ⟨A', n', c', by simp [him, e], r⟩
theorem Own1.fresh0 (w : World) (e : TypeId) {base : Nat} (hb : base ≤ w.heap.size) : Own1 (w.alloc (.cells #[] e)) base e id (.slice (some ⟨w.heap.size, 0, none⟩) 0 0) [] :=
  ⟨by simp, .inr ⟨w.heap.size, 0, #[], rfl, hb, heap_alloc_new w _, Nat.le_refl _, Nat.zero_le _, by simp, by simp⟩⟩
set_option maxRecDepth 100000 in
set_option maxHeartbeats 3200000 in
theorem frameMany_walk (w : World) (lv : Value) (ol : IsRows w lv) (cut : Int) (hc1 : -9223372036854775808 ≤ cut) (hc2 : cut ≤ 9223372036854775807) :
    Calls Try.prog 6 #[lv, .int .i64 cut] w fun e w' => e = .returned (.bool true) ∧ Below w.heap.size w w' := by
  obtain ⟨A, n, cap, ps, rfl, hrw, hcap, hm⟩ := ol
  have HW := Lib.hid hrw; clear hrw
  have HL := Lib.hid HW.out.len
  obtain ⟨m, hmask, hm'⟩ := and_mask cut 65535 (by omega)
  have hmask' : bits .and .i64 cut 65535 = (m : Int) := hmask
  clear hmask
  go_enter Try.func6, Try.ntmps6
  go_wp2_with fail
  refine (fawake_any _).mono ?_
  rintro e w1 ⟨rfl, hb1⟩
  go_wp2_with fail
  refine (small_any A n cap ps w1 hcap hm (HW.out.now hb1)).mono ?_
  rintro e w2 ⟨⟨b, rfl, hsm⟩, hb2⟩
  have hB2 := hb1.trans (hb2.mono hb1.size)
  clear hb2
  cases b with
  | false =>
    clear hsm
    go_wp2
    go_ret
    exact ⟨rfl, hB2⟩
  | true =>
    obtain ⟨hn20, h200⟩ := hsm rfl
    have HB : Hid (∀ p ∈ ps, p.length ≤ 65536) := Lib.hid fun p hp => by have := h200 p hp; omega
    have hrl := recs_small ps h200
    rw [HL.out] at hrl
    have hrt : ∀ k, (recs (ps.take k)).length ≤ 20 * 207 := fun k => by
      have := recs_small (ps.take k) (fun p hp => h200 p (List.mem_of_mem_take hp))
      have h2 : (ps.take k).length ≤ n := by rw [List.length_take, HL.out]; omega
      omega
    have hrd : ∀ k, (recs (ps.drop k)).length ≤ 20 * 207 := fun k => by
      have := recs_small (ps.drop k) (fun p hp => h200 p (List.mem_of_mem_drop hp))
      have h2 : (ps.drop k).length ≤ n := by rw [List.length_drop, HL.out]; omega
      omega
    have HRT := Lib.hid hrt
    have HRD := Lib.hid hrd
    clear h200 hsm hrt hrd
    have HW2 := Lib.hid (HW.out.now hB2)
    have hmod : (m : Int) % ((n : Int) + 1) = ((m % (n + 1) : Nat) : Int) := by rw [Int.natCast_emod]; push_cast; rfl
    have hmt : m % (n + 1) < n + 1 := Nat.mod_lt _ (by omega)
    have hk1 : (n : Int) + 1 ≠ 0 := by omega
    generalize m % (n + 1) = t at hmod hmt
    go_wp2_with fail
    refine (recs_any A n cap ps w2 (by omega) HW2.out).mono ?_
    rintro e w3 ⟨⟨v3, rfl, hown3⟩, hb3⟩
    have hB3 := hB2.trans (hb3.mono hB2.size)
    obtain ⟨A3, K, c3, rfl, hs3, hk3, hd3⟩ := hown3.bs
    rw [maxLen_eq'] at hd3
    have HK := Lib.hid hs3.len
    rw [hs3.len] at hrl
    have HS3 := Lib.hid hs3
    rw [hmod]
    clear hs3 hown3 hb3 hmod hk1
    go_wp2_with fail
    refine (all_any A3 K c3 (recs ps) w3 (by omega) hk3 hd3 HS3.out).mono ?_
    rintro e w4 ⟨hGA, hb4⟩
    rw [allF_many ps HB.out] at hGA
    obtain ⟨v5, vs5, rfl, hown5, hrows5⟩ := hGA
    obtain ⟨A5, n5, c5, rfl, hR5, h51, h52, hn5⟩ := rws_of hown5 hrows5 hb4
    obtain rfl : n5 = n := by rw [hn5]; exact HL.out
    have HR5 := Lib.hid hR5
    have hB4 := hB3.trans (hb4.mono hB3.size)
    have HW4 := Lib.hid (HW.out.now hB4)
    clear hown5 hrows5 hR5 hb4 hn5
    have s1 : ∀ w, (Instr.slice 31 (.slice A n5 cap) none (some (.int .i64 (t : Int))) none).run Try.prog w = .ok (.slice A t cap) w := run_cut_hi Try.underlying31 1 sizeSl A n5 cap t (by omega)
    have s2 : ∀ w, (Instr.slice 31 (.slice A n5 cap) (some (.int .i64 (t : Int))) none none).run Try.prog w = .ok (.slice (cutAt A cap t 1) (n5 - t) (cap - t)) w := run_cut_lo Try.underlying31 1 sizeSl A n5 cap t (by omega)
    go_wp2_with fail
    refine (recs_any A t cap (ps.take t) w4 (by omega) (HW4.out.take (by omega))).mono ?_
    rintro e w6 ⟨⟨v6, rfl, hown6⟩, hb6⟩
    obtain ⟨A6, K6, c6, rfl, hs6, hk6, hd6⟩ := hown6.bs
    rw [maxLen_eq'] at hd6
    have hK6 : K6 ≤ 4140 := by rw [← hs6.len]; exact HRT.out t
    have hB6 := hB4.trans (hb6.mono hB4.size)
    have HS6 := Lib.hid hs6
    have HR6 := Lib.hid (HR5.out.now hb6)
    clear hown6 hs6 hb6
    go_wp2_with fail
    refine (all_any A6 K6 c6 (recs (ps.take t)) w6 (by omega) hk6 hd6 HS6.out).mono ?_
    rintro e w7 ⟨hGA, hb7⟩
    rw [allF_many (ps.take t) (fun p hp => HB.out p (List.mem_of_mem_take hp))] at hGA
    obtain ⟨v7, vs7, rfl, hown7, hrows7⟩ := hGA
    obtain ⟨A7, n7, c7, rfl, hR7, h71, h72, hn7⟩ := rws_of hown7 hrows7 hb7
    have hB7 := hB6.trans (hb7.mono hB6.size)
    have HR8 := Lib.hid (HR6.out.now hb7)
    have HW7 := Lib.hid (HW.out.now hB7)
    have HR7 := Lib.hid hR7
    have HV7 := Lib.hid hrows7.1
    have hn7t : n7 = t := by rw [hn7, List.length_take, HL.out]; omega
    subst hn7t
    clear hown7 hrows7 hR7 hb7 hn7
    go_wp2_with fail
    refine (recs_any (cutAt A cap n7 1) (n5 - n7) (cap - n7) (ps.drop n7) w7 (by omega) (HW7.out.drop (by omega) (by omega))).mono ?_
    rintro e w8 ⟨⟨v8, rfl, hown8⟩, hb8⟩
    obtain ⟨A8, K8, c8, rfl, hs8, hk8, hd8⟩ := hown8.bs
    rw [maxLen_eq'] at hd8
    have hK8 : K8 ≤ 4140 := by rw [← hs8.len]; exact HRD.out n7
    have hB8 := hB7.trans (hb8.mono hB7.size)
    have HS8 := Lib.hid hs8
    have HRa := Lib.hid (HR8.out.now hb8)
    have HRb := Lib.hid (HR7.out.now hb8)
    clear hown8 hs8 hb8
    go_wp2_with fail
    refine (all_any A8 K8 c8 (recs (ps.drop n7)) w8 (by omega) hk8 hd8 HS8.out).mono ?_
    rintro e w9 ⟨hGA, hb9⟩
    rw [allF_many (ps.drop n7) (fun p hp => HB.out p (List.mem_of_mem_drop hp))] at hGA
    obtain ⟨v9, vs9, rfl, hown9, hrows9⟩ := hGA
    obtain ⟨A9, n9, c9, rfl, hR9, h91, h92, hn9⟩ := rws_of hown9 hrows9 hb9
    have hB9 := hB8.trans (hb9.mono hB8.size)
    have HRc := Lib.hid (HRa.out.now hb9)
    have HRd := Lib.hid (HRb.out.now hb9)
    have HR9 := Lib.hid hR9
    have hn9t : n9 ≤ 20 := by rw [hn9, List.length_drop, HL.out]; omega
    clear hown9 hrows9 hR9 hb9 hn9
    have HO0 : Hid (Own1 (w9.alloc (.cells #[] 22)) w9.heap.size 22 id (.slice (some ⟨w9.heap.size, 0, none⟩) 0 0) []) := Own1.fresh0 w9 22 (Nat.le_refl _)
    have hZ : Below w9.heap.size w9 (w9.alloc (.cells #[] 22)) := (Below.refl _ _).alloc (Nat.le_refl _) _
    have hHBn := Lib.hid HB.out
    simp only
    go_wp2_with (first
      | (refine wpList_append_rws (by rfl) (.tmp 55) (.tmp 56) 31 (by rfl) w9.heap.size 22 Try.underlying31 infoSl _ [] (by rfl) HO0.out A7 n7 c7 (ps.take n7) (by rfl) w9 HRd.out hZ (by simp; omega) (by simp) ?_; intro va wa ya hown1 hrow1 hgr1; have hba := hZ.grown hgr1 hZ.size (fun g e => by cases e; exact Nat.le_refl _); have hH1 := Lib.hid hown1; have hHrow := Lib.hid hrow1; have hyl : ya.length ≤ 20 := (by rw [hrow1.1, List.length_take, HL.out]; omega); clear hown1 hrow1 hgr1)
      | (refine wpList_append_rws (by rfl) (.tmp 58) (.tmp 59) 31 (by rfl) w9.heap.size 22 Try.underlying31 infoSl va ([] ++ ya) (by rfl) hH1.out A9 n9 c9 (ps.drop n7) (by rfl) w9 HR9.out hba (by rw [List.nil_append]; omega) hba.size ?_; intro vb wb yb hown2 hrow2 hgr2; have hbb := hba.grown hgr2 hba.size (fun g e => hH1.out.base_le g e); have hrw2 := hHrow.out.append hrow2; rw [List.take_append_drop] at hrw2; rw [List.nil_append] at hown2; obtain ⟨Ab, nb, cb, rfl, hRb, hb1', hb2', hnb⟩ := rws_of hown2 hrw2 hbb; obtain rfl : nb = n5 := (by rw [hnb]; exact HL.out); have HRz := Lib.hid hRb; have hBz := hB9.trans (hbb.mono hB9.size); have HRy := Lib.hid (HRc.out.now hbb); have HWz := Lib.hid (HW.out.now hBz); clear hown2 hrow2 hgr2 hrw2 hRb hnb))
    refine (same_any A5 nb c5 A cap ps wb h51 h52 HRy.out HWz.out).mono ?_
    rintro e wc ⟨rfl, hbc⟩
    have hBc := hBz.trans (hbc.mono hBz.size)
    go_wp2_with fail
    refine (same_any Ab nb cb A cap ps wc hb1' hb2' (HRz.out.now hbc) (HWz.out.now hbc)).mono ?_
    rintro e wd ⟨rfl, hbd⟩
    go_wp2
    go_ret
    exact ⟨rfl, hBc.trans (hbd.mono hBc.size)⟩
end Go.Proofs.Ytkkbncgnobaliaa
