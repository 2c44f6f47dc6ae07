/-
  THE DISK AS ONE WORD: its two slots' octets; the walks of Write, Read, Gen told by it.
-/
import Derived.Test.YtkkbncgnobaliaaDskP
namespace Go.Proofs.Ytkkbncgnobaliaa
open Go.RowKit
open CodP
open CrcP
set_option linter.unusedVariables false
/-- A disk whose slots hold these octets. -/
structure Dk (w : World) (v : Value) (s0 s1 : List UInt8) : Prop where
  out : ∃ A0 n0 c0 A1 n1 c1, v = .agg #[.slice A0 n0 c0, .slice A1 n1 c1] ∧ Bs w w.heap.size A0 n0 s0 ∧ Bs w w.heap.size A1 n1 s1 ∧ (n0 ≤ c0 ∧ c0 ≤ 9223372036854775807 ∧ n0 ≤ 9223372036854775807) ∧ (n1 ≤ c1 ∧ c1 ≤ 9223372036854775807 ∧ n1 ≤ 9223372036854775807)
theorem Dk.now {w w' : World} {v : Value} {s0 s1 : List UInt8} (h : Dk w v s0 s1) (hb : Below w.heap.size w w') : Dk w' v s0 s1 := by
  obtain ⟨A0, n0, c0, A1, n1, c1, rfl, h0, h1, r⟩ := h.out
  exact ⟨A0, n0, c0, A1, n1, c1, rfl, h0.now hb, h1.now hb, r⟩
theorem Dk.empty (w : World) : Dk w (.agg #[.slice none 0 0, .slice none 0 0]) [] [] :=
  ⟨none, 0, 0, none, 0, 0, rfl, Bs.nil_ _ _ _, Bs.nil_ _ _ _, ⟨by omega, by omega, by omega⟩, ⟨by omega, by omega, by omega⟩⟩
noncomputable def new0 (s0 : List UInt8) (g : Nat) (p : List UInt8) (n : Int) : List UInt8 := if g % 2 = 0 then (recD g p).take n.toNat else s0
noncomputable def new1 (s1 : List UInt8) (g : Nat) (p : List UInt8) (n : Int) : List UInt8 := if g % 2 = 0 then s1 else (recD g p).take n.toNat
theorem recD_small {gen : Int} {p : List UInt8} (ho : okD gen p) : 0 < (recD gen p).length ∧ (recD gen p).length ≤ 70000 := by
  rw [recD_yes ho]
  have h1 := ho.2
  have h2 := enc_len3 h1
  have h3 := encU_pos (encU gen.toNat ++ p).length
  unfold recd
  simp only [List.length_append, le4_len] at *
  omega
theorem take_min (l : List UInt8) (n : Nat) : l.take (min n l.length) = l.take n := by
  rw [List.take_eq_take_iff]; omega
theorem write_dk (v : Value) (s0 s1 : List UInt8) (gen : Nat) (n : Int) (A : Option Addr) (m cap : Nat) (p : List UInt8) (w : World) (hd : Dk w v s0 s1) (hn : m ≤ 70368744177664) (hb : Bs w w.heap.size A m p) (ho : okD gen p) :
    Calls Try.prog 45 #[v, .int .i64 (gen : Int), .slice A m cap, .int .i64 n] w fun e w' => (∃ v', e = .returned v' ∧ Dk w' v' (new0 s0 gen p n) (new1 s1 gen p n)) ∧ Below w.heap.size w w' := by
  obtain ⟨A0, n0, c0, A1, n1, c1, rfl, h0, h1, r0, r1⟩ := hd.out
  refine (write_yes A0 A1 n0 c0 n1 c1 gen n A m cap p w hn hb ho).mono ?_
  rintro e w' ⟨⟨G, k, -, hk, hG, rfl⟩, hB⟩
  refine ⟨⟨_, rfl, ?_⟩, hB⟩
  have hs := recD_small ho
  rw [hk, take_min] at hG
  rw [← hk] at hG
  have hG' : Bs w' w'.heap.size (some ⟨G, 0, none⟩) k ((recD gen p).take n.toNat) := hG
  unfold new0 new1
  by_cases hp : gen % 2 = 0
  · rw [if_pos hp, if_pos hp, if_pos hp]
    exact ⟨_, _, _, _, _, _, rfl, hG', h1.now hB, ⟨by omega, by omega, by omega⟩, r1⟩
  · rw [if_neg hp, if_neg hp, if_neg hp]
    exact ⟨_, _, _, _, _, _, rfl, h0.now hB, hG', r0, ⟨by omega, by omega, by omega⟩⟩
/-- .. where the disk lies in an elder world: what it became lies there, or in blocks that the call has laid. -/
theorem write_dk2 (v : Value) (s0 s1 : List UInt8) (gen : Nat) (n : Int) (A : Option Addr) (m cap : Nat) (p : List UInt8) (W0 w : World) (hd : Dk W0 v s0 s1) (h0 : Below W0.heap.size W0 w) (hn : m ≤ 70368744177664) (hb : Bs w w.heap.size A m p) (ho : okD gen p) :
    Calls Try.prog 45 #[v, .int .i64 (gen : Int), .slice A m cap, .int .i64 n] w fun e w' => (∃ v', e = .returned v' ∧ (∃ A0 n0 c0 A1 n1 c1, v' = .agg #[.slice A0 n0 c0, .slice A1 n1 c1]) ∧
      ∀ V, Below W0.heap.size W0 V → (∀ G, w.heap.size ≤ G → G < w'.heap.size → V.heap[G]? = w'.heap[G]?) → w'.heap.size ≤ V.heap.size → Dk V v' (new0 s0 gen p n) (new1 s1 gen p n)) ∧ Below w.heap.size w w' := by
  obtain ⟨A0, n0, c0, A1, n1, c1, rfl, h0', h1, r0, r1⟩ := hd.out
  refine (write_yes A0 A1 n0 c0 n1 c1 gen n A m cap p w hn hb ho).mono ?_
  rintro e w' ⟨⟨G, k, hGG, hk, hG, rfl⟩, hB⟩
  have hs := recD_small ho
  rw [hk, take_min] at hG
  rw [← hk] at hG
  have hG' : Bs w' w'.heap.size (some ⟨G, 0, none⟩) k ((recD gen p).take n.toNat) := hG
  have hGV : ∀ V, (∀ G, w.heap.size ≤ G → G < w'.heap.size → V.heap[G]? = w'.heap[G]?) → w'.heap.size ≤ V.heap.size → Bs V V.heap.size (some ⟨G, 0, none⟩) k ((recD gen p).take n.toNat) := by
    intro V hV hz
    refine ⟨hG'.len, fun hk0 => ?_⟩
    obtain ⟨b, off, e, hb', hc⟩ := hG'.sl hk0
    cases e
    exact ⟨G, 0, rfl, by omega, fun i hi => (World.cell?_of_block (hV G hGG hb')).trans (hc i hi)⟩
  refine ⟨⟨_, rfl, ?_, fun V hBV hV hz => ?_⟩, hB⟩
  · by_cases hp : gen % 2 = 0
    · rw [if_pos hp]; exact ⟨_, _, _, _, _, _, rfl⟩
    · rw [if_neg hp]; exact ⟨_, _, _, _, _, _, rfl⟩
  · unfold new0 new1
    by_cases hp : gen % 2 = 0
    · rw [if_pos hp, if_pos hp, if_pos hp]
      exact ⟨_, _, _, _, _, _, rfl, hGV V hV hz, h1.now hBV, ⟨by omega, by omega, by omega⟩, r1⟩
    · rw [if_neg hp, if_neg hp, if_neg hp]
      exact ⟨_, _, _, _, _, _, rfl, h0'.now hBV, hGV V hV hz, r0, ⟨by omega, by omega, by omega⟩⟩
theorem read_dk (v : Value) (s0 s1 : List UInt8) (w : World) (hd : Dk w v s0 s1) :
    Calls Try.prog 44 #[v] w fun e w' => GotW w' w'.heap.size e (readD s0 s1) ∧ Below w.heap.size w w' := by
  obtain ⟨A0, n0, c0, A1, n1, c1, rfl, h0, h1, r0, r1⟩ := hd.out
  exact read_any A0 A1 n0 c0 n1 c1 s0 s1 w r0.2.2 r1.2.2 r0.1 r1.1 r0.2.1 r1.2.1 h0 h1
theorem gen_dk (v : Value) (s0 s1 : List UInt8) (w : World) (hd : Dk w v s0 s1) :
    Calls Try.prog 42 #[v] w fun e w' => e = .returned (.int .i64 (genD s0 s1 : Nat)) ∧ Below w.heap.size w w' := by
  obtain ⟨A0, n0, c0, A1, n1, c1, rfl, h0, h1, r0, r1⟩ := hd.out
  exact gen_any A0 A1 n0 c0 n1 c1 s0 s1 w r0.2.2 r1.2.2 r0.1 r1.1 r0.2.1 r1.2.1 h0 h1
/-- A block of two cells that the call has just made and filled. -/
theorem Blk.two (w : World) (T : TypeId) (z0 z1 a b : Value) : Blk (((w.alloc (.cells #[z0, z1] T)).setCell ⟨w.heap.size, 0, none⟩ a).setCell ⟨w.heap.size, 1, none⟩ b) w.heap.size T #[a, b] :=
  ((Blk.new w T #[z0, z1]).put 0 a).put 1 b
theorem Below.two (w : World) (T : TypeId) (z0 z1 a b : Value) : Below w.heap.size w (((w.alloc (.cells #[z0, z1] T)).setCell ⟨w.heap.size, 0, none⟩ a).setCell ⟨w.heap.size, 1, none⟩ b) :=
  (((Below.refl _ _).alloc (Nat.le_refl _) _).setCell (Nat.le_refl _) _).setCell (Nat.le_refl _) _
/-- The document's example. -/
theorem genD_nil : genD [] [] = 0 := by rfl
theorem readD_nil : readD [] [] = none := by rfl
theorem okD_small (g : Nat) (p : List UInt8) (hg : g ≤ 9007199254740992) (hp : p.length ≤ 60000) : okD g p := by
  refine ⟨⟨by omega, by omega⟩, ?_⟩
  have e : ((g : Int)).toNat = g := by omega
  rw [e, List.length_append]
  have := encU_length_le 8 g (pow_le _ (by omega))
  omega
theorem recD_len1 (g : Nat) (x : UInt8) (hg : g < 128) : (recD g [x]).length = 7 := by
  rw [recD_yes (okD_small g [x] (by omega) (by simp))]
  have e : ((g : Int)).toNat = g := by omega
  rw [e, encU_lt hg]
  unfold recd
  rw [show ([UInt8.ofNat g] ++ [x]).length = 2 from rfl, encU_lt (by omega)]
  rfl
theorem awk0 : readD (recD 0 [97]) [] = some (0, [97]) := read_whole0 (s0 := []) (g := 0) (okD_small 0 [97] (by omega) (by simp)) genD_nil rfl
theorem awkg : genD (recD 0 [97]) [] = 1 := by unfold genD; rw [awk0]
theorem awk1 : readD (recD 0 [97]) ((recD 1 [98]).take 3) = some (0, [97]) := by
  have h : ofSlot 1 ((recD 1 [98]).take 3) = none := ofSlot_torn (g := 1) (okD_small 1 [98] (by omega) (by simp)) 1 3 (by have := recD_len1 1 98 (by omega); show 3 < (recD ((1 : Nat) : Int) [98]).length; omega)
  rw [read_torn1 (s1 := []) h (by rw [awkg]), awk0]
theorem awk2 : readD (recD 0 [97]) (recD 1 [98]) = some (1, [98]) := read_whole1 (s1 := []) (g := 1) (okD_small 1 [98] (by omega) (by simp)) awkg rfl
theorem awk3 : genD (recD 0 [97]) (recD 1 [98]) = 2 := by unfold genD; rw [awk2]
end Go.Proofs.Ytkkbncgnobaliaa
