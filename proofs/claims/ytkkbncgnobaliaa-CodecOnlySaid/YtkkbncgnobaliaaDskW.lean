/-
  THE DISK's WALKS: Write.
-/
import Derived.Test.YtkkbncgnobaliaaDsk
import Derived.Laws.CopyOwn
import Derived.Deep.OwnRows
namespace Go.Proofs.Ytkkbncgnobaliaa
open Go.RowKit
open CodP
open CrcP
set_option linter.unusedVariables false
set_option maxRecDepth 100000 in
set_option maxHeartbeats 1600000 in
theorem write_no (A0 A1 : Option Addr) (n0 c0 n1 c1 : Nat) (gen n : Int) (A : Option Addr) (m cap : Nat) (p : List UInt8) (w : World) (hn : m ≤ 70368744177664) (hb : Bs w w.heap.size A m p) (ho : recD gen p = []) :
    Calls Try.prog 45 #[.agg #[.slice A0 n0 c0, .slice A1 n1 c1], .int .i64 gen, .slice A m cap, .int .i64 n] w fun e w' => e = .returned (.agg #[.slice A0 n0 c0, .slice A1 n1 c1]) ∧ Below w.heap.size w w' := by
  have hHb := Lib.hid hb; clear hb
  go_enter Try.func45, Try.ntmps45
  go_wp2_with fail
  refine (record_any gen A m cap p _ hn (by
    have h1 := hHb.out.sl.alloc (Nat.le_refl _) (.cells #[.slice A0 n0 c0, .slice A1 n1 c1] 58)
    exact ⟨hHb.out.len, (h1.alloc (by simp) _).more (by simp; omega)⟩)).mono ?_
  rintro e w1 ⟨⟨v, rfl, hown⟩, hb1⟩
  rw [ho] at hown
  have hB1 : Below w.heap.size w w1 := (((Below.refl _ _).alloc (Nat.le_refl _) _).alloc (by simp) _).trans (hb1.mono (by simp; omega))
  have K1 : Blk w1 w.heap.size 58 #[.slice A0 n0 c0, .slice A1 n1 c1] := ((Blk.new w _ _).alloc _).below hb1 (by simp; omega)
  have L1 : Blk w1 (w.heap.size + 1) 58 #[.slice none 0 0, .slice none 0 0] := by
    have := (Blk.new (w.alloc (.cells #[.slice A0 n0 c0, .slice A1 n1 c1] 58)) 58 #[.slice none 0 0, .slice none 0 0]).below hb1 (by simp)
    rwa [World.size_alloc] at this
  have k0 : w1.cell? ⟨w.heap.size, 0, none⟩ = some (.slice A0 n0 c0) := K1.cell 0
  have k1 : w1.cell? ⟨w.heap.size, 1, none⟩ = some (.slice A1 n1 c1) := K1.cell 1
  have q0 : w1.cell? ⟨w.heap.size + 1, 0, none⟩ = some (.slice none 0 0) := L1.cell 0
  have q1 : w1.cell? ⟨w.heap.size + 1, 1, none⟩ = some (.slice none 0 0) := L1.cell 1
  have f0 := L1.frozen 0
  have f1 := L1.frozen 1
  obtain ⟨A2, n2, c2, rfl, hs2, -, -⟩ := hown.bs
  obtain rfl : n2 = 0 := hs2.len.symm
  have e0 : (w1.setCell ⟨w.heap.size + 1, 0, none⟩ (.slice A0 n0 c0)).cell? ⟨w.heap.size + 1, 0, none⟩ = some (.slice A0 n0 c0) := (L1.put 0 (.slice A0 n0 c0)).cell 0
  have e1 : ((w1.setCell ⟨w.heap.size + 1, 0, none⟩ (.slice A0 n0 c0)).setCell ⟨w.heap.size + 1, 1, none⟩ (.slice A1 n1 c1)).cell? ⟨w.heap.size + 1, 1, none⟩ = some (.slice A1 n1 c1) := ((L1.put 0 (.slice A0 n0 c0)).put 1 (.slice A1 n1 c1)).cell 1
  clear hown hs2 hb1 K1 L1
  go_wp2
  refine bodyPost_ret (v := .agg #[.slice A0 n0 c0, .slice A1 n1 c1]) (by simp [results, Try.results45, go_sem, e0, e1]) rfl ⟨rfl, ?_⟩
  exact (hB1.setCell (by simp) _).setCell (by simp) _
theorem wpList_copy_b {P : Program} {w : World} {ops : Array Oper} {rest : List Oper} {o : Oper} {a : Act} {Q : Exit → Act → World → Prop} (hgd : o.guard = none) (d s : Operand) (dT sT : TypeId)
    (ho : o.op = .call { callee := .builtin .copy, args := #[d, s], argTypes := #[dT, sT] }) (elem : TypeId) (hu : P.underlying dT = some (.slice elem)) (hsz : (P.info? elem).map (·.size) = some 1)
    (g k b off rl cr : Nat) (hd : a.eval d = .slice (some ⟨g, 0, none⟩) k k) (hs : a.eval s = .slice (some ⟨b, off, none⟩) rl cr)
    (cur : Array Value) (t : TypeId) (hg : Blk w g t cur) (hcur : cur.size = k) (B : Nat) (l : List UInt8) (hb : Bs w B (some ⟨b, off, none⟩) rl l) (hk : k ≤ rl)
    (h : ∀ W, Blk W g t ((l.take k).map b8).toArray → w.grownBy W (some g) → wpList P ops Q rest (a.put o.dst (goInt k)) W) : wpList P ops Q (o :: rest) a w := by
  have hlen : ((l.take k).map b8).length = k := by simp [hb.len]; omega
  refine wpList_copy_own hgd d s dT sT ho elem hu hsz g 0 k k ⟨b, off, none⟩ rl cr hd hs cur t hg ((l.take k).map b8) ?_ ?_ ?_ (b8_one _) ?_
  · rw [hlen]; simp [Nat.min_def]; omega
  · intro j v hv
    have hadd : (⟨b, off, none⟩ : Addr).add j = ⟨b, off + j, none⟩ := by unfold Addr.add; split <;> simp_all
    rw [hadd]
    exact bs_cells (hb.hi hk) j v hv
  · rw [hlen, hcur]; omega
  · have hrow : (cur.toList.take 0 ++ ((l.take k).map b8 ++ cur.toList.drop (0 + ((l.take k).map b8).length))).toArray = ((l.take k).map b8).toArray := by
      have hd : cur.toList.drop (0 + ((l.take k).map b8).length) = [] := List.drop_of_length_le (by rw [hlen]; simp [hcur])
      rw [hd]; simp
    rw [hrow, hlen]
    refine h _ (Blk.setRow hg _) ⟨rfl, rfl, rfl, by simp [World.setRow], fun j hj hne => ?_⟩
    simp only [World.setRow, Array.getElem?_modify]
    rw [if_neg (fun e => hne (by rw [e]))]
theorem blk_bs {W : World} {G : Nat} {t : TypeId} {l : List UInt8} {k : Nat} (h : Blk W G t (l.map b8).toArray) (hk : l.length = k) : Bs W W.heap.size (some ⟨G, 0, none⟩) k l := by
  refine ⟨hk, fun _ => ⟨G, 0, rfl, h.lt, fun i hi => ?_⟩⟩
  have hi' : i < (l.map b8).length := by rw [List.length_map, hk]; exact hi
  rw [Nat.zero_add, h.cell]
  have e := b8_octs _ i _ (List.getElem?_eq_getElem hi')
  rw [← e]
  simpa using List.getElem?_eq_getElem hi'
theorem clip_runs (z : Int) (l : Nat) : ∃ (m1 : Int) (k : Nat), (∀ (ts : Array TypeId) (t : TypeId) (W : World), (Builtin.max_ ts t #[.int .i64 z, .int .i64 0]).run Try.prog W = .ok (.int .i64 m1) W) ∧
    (∀ (ts : Array TypeId) (t : TypeId) (W : World), (Builtin.min_ ts t #[.int .i64 m1, .int .i64 (l : Int)]).run Try.prog W = .ok (.int .i64 (k : Int)) W) ∧ k = min z.toNat l := by
  refine ⟨max z 0, min z.toNat l, fun ts t W => ?_, fun ts t W => ?_, rfl⟩
  · simp [Builtin.max_, Builtin.max2]; split <;> omega
  · simp [Builtin.min_, Builtin.min2]; split <;> omega
set_option maxRecDepth 100000 in
set_option maxHeartbeats 1600000 in
theorem write_yes (A0 A1 : Option Addr) (n0 c0 n1 c1 : Nat) (gen : Nat) (n : Int) (A : Option Addr) (m cap : Nat) (p : List UInt8) (w : World) (hn : m ≤ 70368744177664) (hb : Bs w w.heap.size A m p) (ho : okD gen p) :
    Calls Try.prog 45 #[.agg #[.slice A0 n0 c0, .slice A1 n1 c1], .int .i64 (gen : Int), .slice A m cap, .int .i64 n] w fun e w' => (∃ G k, w.heap.size ≤ G ∧ k = min n.toNat (recD gen p).length ∧ Bs w' w'.heap.size (some ⟨G, 0, none⟩) k ((recD gen p).take k) ∧
      e = .returned (.agg (if gen % 2 = 0 then #[.slice (some ⟨G, 0, none⟩) k k, .slice A1 n1 c1] else #[.slice A0 n0 c0, .slice (some ⟨G, 0, none⟩) k k]))) ∧ Below w.heap.size w w' := by
  have hHb := Lib.hid hb; clear hb
  have hrp := Lib.hid (show 0 < (recD gen p).length ∧ (recD gen p).length ≤ 70000 from by
    rw [recD_yes ho]
    have h1 := ho.2
    have h2 := enc_len3 h1
    have h3 := encU_pos (encU (gen : Int).toNat ++ p).length
    unfold recd
    simp only [List.length_append, le4_len] at *
    omega)
  go_enter Try.func45, Try.ntmps45
  go_wp2_with fail
  refine (record_any gen A m cap p _ hn (by
    have h1 := hHb.out.sl.alloc (Nat.le_refl _) (.cells #[.slice A0 n0 c0, .slice A1 n1 c1] 58)
    exact ⟨hHb.out.len, (h1.alloc (by simp) _).more (by simp; omega)⟩)).mono ?_
  rintro e w1 ⟨⟨v, rfl, hown⟩, hb1⟩
  generalize hRR : recD gen p = R at hown hrp
  have HRR := Lib.hid hRR; clear hRR
  have hB1 : Below w.heap.size w w1 := (((Below.refl _ _).alloc (Nat.le_refl _) _).alloc (by simp) _).trans (hb1.mono (by simp; omega))
  have hz1 : w.heap.size + 1 < w1.heap.size := by have := hb1.size; simp at this; omega
  have K1 : Blk w1 w.heap.size 58 #[.slice A0 n0 c0, .slice A1 n1 c1] := ((Blk.new w _ _).alloc _).below hb1 (by simp; omega)
  have L1 : Blk w1 (w.heap.size + 1) 58 #[.slice none 0 0, .slice none 0 0] := by
    have := (Blk.new (w.alloc (.cells #[.slice A0 n0 c0, .slice A1 n1 c1] 58)) 58 #[.slice none 0 0, .slice none 0 0]).below hb1 (by simp)
    rwa [World.size_alloc] at this
  rcases hown.form with ⟨-, h⟩ | ⟨g, cr, rfl, -, hg2, hg3, hg4⟩
  · exfalso; have := hrp.out.1; rw [h] at this; simp at this
  have hS : Bs w1 w1.heap.size (some ⟨g, 0, none⟩) R.length R := by
    obtain ⟨A', n', c', e, h1, -, -⟩ := hown.bs
    cases e
    exact h1
  generalize hrl : R.length = rl at *
  obtain ⟨m1, k, hmax, hmin, hk⟩ := clip_runs n rl
  have hmk := run_make_row' (P := Try.prog) 22 5 (.int .u8 0) 1 Try.underlying22 infoU8 rfl .i64 .i64 k (by have := hrp.out; omega) (by have := hrp.out; omega)
  have hrl0 : ((rl : Int) == 0) = false := beq_false_of_ne (by have := hrp.out; omega)
  have HS := Lib.hid hS
  have hkl := Lib.hid (show k ≤ rl by omega)
  have HK := Lib.hid hk; clear hk
  clear hown hS hb1
  generalize hmc : madeCells #[Value.int .u8 0] k = mc at hmk
  have hmcs : mc.size = k := by rw [← hmc]; simp [size_madeCells]
  have HMC := Lib.hid hmcs; clear hmcs hmc
  have k0 : (w1.alloc (.cells mc 5)).cell? ⟨w.heap.size, 0, none⟩ = some (.slice A0 n0 c0) := (K1.alloc _).cell 0
  have HS2 := Lib.hid (show Bs (w1.alloc (.cells mc 5)) w1.heap.size (some ⟨g, 0, none⟩) rl R from ⟨HS.out.len, HS.out.sl.alloc (Nat.le_refl _) _⟩)
  go_wp2_with ((refine wpList_copy_b (by rfl) (.tmp 24) (.tmp 25) 22 22 (by rfl) 5 Try.underlying22 sizeU8 w1.heap.size k g 0 rl cr (by rfl) (by rfl) mc 5 (Blk.new w1 _ _) HMC.out _ R HS2.out hkl.out ?_))
  intro W0 M2 hgr
  have hlk := Lib.hid (show ((R.take k).map b8).length = k by simp [hrl]; have := hkl.out; omega)
  have hB2 : Below w.heap.size w W0 := (hB1.alloc hB1.size _).grown hgr (by have := hB1.size; simp; omega) (fun g e => by cases e; exact hB1.size)
  have K2 := (K1.alloc (.cells mc 5)).grown hgr (fun e => by have := Option.some.inj e; omega)
  have L2 := (L1.alloc (.cells mc 5)).grown hgr (fun e => by have := Option.some.inj e; omega)
  have hz2 : w1.heap.size < W0.heap.size := M2.lt
  clear hmk hmax hmin k0 K1 L1 hgr
  have hkt := Lib.hid (show (R.take k).length = k by have := hlk.out; simpa using this)
  have HG := Lib.hid M2; clear M2
  have k0 : W0.cell? ⟨w.heap.size, 0, none⟩ = some (.slice A0 n0 c0) := K2.cell 0
  have k1 : W0.cell? ⟨w.heap.size, 1, none⟩ = some (.slice A1 n1 c1) := K2.cell 1
  have fk0 := K2.frozen 0
  have fk1 := K2.frozen 1
  have q0 : W0.cell? ⟨w.heap.size + 1, 0, none⟩ = some (.slice none 0 0) := L2.cell 0
  have q1 : W0.cell? ⟨w.heap.size + 1, 1, none⟩ = some (.slice none 0 0) := L2.cell 1
  have f0 := L2.frozen 0
  have f1 := L2.frozen 1
  by_cases hpar : gen % 2 = 0
  · have hp2 : (gen : Int) % 2 = 0 := by omega
    have HPar := Lib.hid hpar; clear hpar
    have M3 := Lib.hid (((HG.out.away (p := ⟨w.heap.size, 0, none⟩) (show w1.heap.size ≠ w.heap.size by omega) (.slice (some ⟨w1.heap.size, 0, none⟩) k k)).away (p := ⟨w.heap.size + 1, 0, none⟩) (show w1.heap.size ≠ w.heap.size + 1 by omega) (.slice (some ⟨w1.heap.size, 0, none⟩) k k)).away (p := ⟨w.heap.size + 1, 1, none⟩) (show w1.heap.size ≠ w.heap.size + 1 by omega) (.slice A1 n1 c1))
    have L3 := L2.away (p := ⟨w.heap.size, 0, none⟩) (by simp) (.slice (some ⟨w1.heap.size, 0, none⟩) k k)
    have e0 : ((W0.setCell ⟨w.heap.size, 0, none⟩ (.slice (some ⟨w1.heap.size, 0, none⟩) k k)).setCell ⟨w.heap.size + 1, 0, none⟩ (.slice (some ⟨w1.heap.size, 0, none⟩) k k)).cell? ⟨w.heap.size + 1, 0, none⟩ = some (.slice (some ⟨w1.heap.size, 0, none⟩) k k) := (L3.put 0 (.slice (some ⟨w1.heap.size, 0, none⟩) k k)).cell 0
    have e1 : (((W0.setCell ⟨w.heap.size, 0, none⟩ (.slice (some ⟨w1.heap.size, 0, none⟩) k k)).setCell ⟨w.heap.size + 1, 0, none⟩ (.slice (some ⟨w1.heap.size, 0, none⟩) k k)).setCell ⟨w.heap.size + 1, 1, none⟩ (.slice A1 n1 c1)).cell? ⟨w.heap.size + 1, 1, none⟩ = some (.slice A1 n1 c1) := ((L3.put 0 (.slice (some ⟨w1.heap.size, 0, none⟩) k k)).put 1 (.slice A1 n1 c1)).cell 1
    go_wp2
    refine bodyPost_ret (v := .agg #[.slice (some ⟨w1.heap.size, 0, none⟩) k k, .slice A1 n1 c1]) (by simp [results, Try.results45, go_sem, e0, e1]) rfl ⟨⟨w1.heap.size, hB1.size, ?_, ?_⟩, ?_⟩
    · have e : min n.toNat (recD (gen : Int) p).length = k := by rw [HRR.out, hrl]; exact HK.out.symm
      rw [e, HRR.out]
      exact blk_bs (t := 5) (by rw [List.map_take]; exact M3.out) hkt.out
    · have e : min n.toNat (recD (gen : Int) p).length = k := by rw [HRR.out, hrl]; exact HK.out.symm
      rw [e]
    · exact ((hB2.setCell (Nat.le_refl _) _).setCell (by simp) _).setCell (by simp) _
  · have hp2 : (gen : Int) % 2 = 1 := by omega
    have HPar := Lib.hid hpar; clear hpar
    have M3 := Lib.hid (((HG.out.away (p := ⟨w.heap.size, 1, none⟩) (show w1.heap.size ≠ w.heap.size by omega) (.slice (some ⟨w1.heap.size, 0, none⟩) k k)).away (p := ⟨w.heap.size + 1, 0, none⟩) (show w1.heap.size ≠ w.heap.size + 1 by omega) (.slice A0 n0 c0)).away (p := ⟨w.heap.size + 1, 1, none⟩) (show w1.heap.size ≠ w.heap.size + 1 by omega) (.slice (some ⟨w1.heap.size, 0, none⟩) k k))
    have L3 := L2.away (p := ⟨w.heap.size, 1, none⟩) (by simp) (.slice (some ⟨w1.heap.size, 0, none⟩) k k)
    have e0 : ((W0.setCell ⟨w.heap.size, 1, none⟩ (.slice (some ⟨w1.heap.size, 0, none⟩) k k)).setCell ⟨w.heap.size + 1, 0, none⟩ (.slice A0 n0 c0)).cell? ⟨w.heap.size + 1, 0, none⟩ = some (.slice A0 n0 c0) := (L3.put 0 (.slice A0 n0 c0)).cell 0
    have e1 : (((W0.setCell ⟨w.heap.size, 1, none⟩ (.slice (some ⟨w1.heap.size, 0, none⟩) k k)).setCell ⟨w.heap.size + 1, 0, none⟩ (.slice A0 n0 c0)).setCell ⟨w.heap.size + 1, 1, none⟩ (.slice (some ⟨w1.heap.size, 0, none⟩) k k)).cell? ⟨w.heap.size + 1, 1, none⟩ = some (.slice (some ⟨w1.heap.size, 0, none⟩) k k) := ((L3.put 0 (.slice A0 n0 c0)).put 1 (.slice (some ⟨w1.heap.size, 0, none⟩) k k)).cell 1
    go_wp2
    refine bodyPost_ret (v := .agg #[.slice A0 n0 c0, .slice (some ⟨w1.heap.size, 0, none⟩) k k]) (by simp [results, Try.results45, go_sem, e0, e1]) rfl ⟨⟨w1.heap.size, hB1.size, ?_, ?_⟩, ?_⟩
    · have e : min n.toNat (recD (gen : Int) p).length = k := by rw [HRR.out, hrl]; exact HK.out.symm
      rw [e, HRR.out]
      exact blk_bs (t := 5) (by rw [List.map_take]; exact M3.out) hkt.out
    · have e : min n.toNat (recD (gen : Int) p).length = k := by rw [HRR.out, hrl]; exact HK.out.symm
      rw [e]
    · exact ((hB2.setCell (Nat.le_refl _) _).setCell (by simp) _).setCell (by simp) _
end Go.Proofs.Ytkkbncgnobaliaa
