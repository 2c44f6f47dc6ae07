/-
  THE REFERENCE's All and Runs (package watchtowerref16).
-/
import Derived.Test.YtcmhceilbampiaaPastF2
namespace Go.Proofs.Ytcmhceilbampiaa
open Go.RowKit
open HoldP
open PastP
set_option linter.unusedVariables false
set_option maxRecDepth 100000 in
set_option maxHeartbeats 1600000 in
theorem rall_p (A : Option Addr) (n cap : Nat) (T : Nat → Int) (C : Nat → Bool) (wt k : Int) (w : World) (hn : n ≤ 9223372036854775807) (hc : n ≤ cap) (hcap : cap ≤ 9223372036854775807) (hb : Ps w w.heap.size A n T C) :
    Calls Try.prog 35 #[.slice A n cap, .int .i64 wt, .int .i64 k] w fun e w' => (∃ v, e = .returned v ∧ OwnI w' w.heap.size v (allL T C (clT wt) (clT k) (cntN n T))) ∧ Below w.heap.size w w' := by
  have hHb := Lib.hid hb; clear hb
  have hSN := sane_cntN n T
  go_enter Try.func35, Try.ntmps35
  go_wp2_with fail
  refine (ras_p A n cap T C _ hn hc hcap w.heap.size (Nat.le_refl _) hHb.out).mono ?_
  rintro e w1 ⟨⟨A', cap', rfl, hps, hc', hcap''⟩, hb1⟩
  have h200 : cntN n T ≤ 200 := hSN.1
  have hidem0 : cntN (cntN n T) T = cntN n T := cntN_of hSN
  generalize hNN : cntN n T = N at hps hc' h200 hidem0 ⊢
  have HNN := Lib.hid hNN; clear hNN
  have hidem := Lib.hid hidem0; clear hidem0
  have hPs := Lib.hid hps; clear hps hHb hSN
  go_wp2
  go_loopw [8, 9] (fun vo i wr => ∃ m : Nat, m ≤ N ∧ i = .int .i64 m ∧ OwnI wr w1.heap.size vo (allL T C (clT wt) (clT k) m) ∧ Below w1.heap.size w1 wr) (fun _ i _ => N - (intOf i).toNat)
  case atStart => exact ⟨0, by omega, rfl, Own1.nil_ _ _ _ _, Below.refl _ _⟩
  case round =>
    obtain ⟨m, hm, rfl, hown, hB⟩ := hrel
    have hO := Lib.hid hown; clear hown
    by_cases hlt : m < N
    · go_wp2_with fail
      refine (rat_p A' N cap' T C wt k m _ (by omega) hc' hcap'' w.heap.size (by have := hb1.size; have := hB.size; omega) (hPs.out.below (hB.mono hb1.size))).mono ?_
      rintro e w2 ⟨rfl, hb2⟩
      have HV := Lib.hid (atV_at (n := N) (T := T) (C := C) (w := wt) (k := k) (I := m) (by rw [hidem.out]; exact hlt))
      rw [HV.out]
      have HS := Lib.hid (allL_succ T C (clT wt) (clT k) m)
      have HL := Lib.hid (allL_len T C (clT wt) (clT k) m)
      generalize atP T C (clT wt) (clT k) m = z at HS ⊢
      have hO2 := Lib.hid ((Own1.below hO.out hb2).alloc (.cells #[.int .i64 z] 3))
      have HLit := Lib.hid (Blk.new w2 3 #[.int .i64 z])
      have hB2 := hB.trans (hb2.mono hB.size)
      have hz2 := hb2.size
      go_wp2_with ((refine wpList_append_1 (by rfl) (.tmp 18) (.tmp 24) 41 (by rfl) w1.heap.size 3 (.int .i64 0) 8 Try.underlying41 infoI1 rfl (fun z : Int => .int .i64 z) _ (allL T C (clT wt) (clT k) m) (by rfl) hO2.out z rfl w2.heap.size 1 3 (by rfl) HLit.out (by rw [HL.out]; omega) (by rw [HL.out]; omega) (by have := hB2.size; simp; omega) ?_; intro v' w' hown' hgr hat))
      go_roundw
      case rel => exact ⟨m + 1, by omega, by go_num, by rw [HS.out]; exact hown', (hB2.alloc hB2.size _).grown hgr (by have := hB2.size; simp; omega) (fun g e => Own1.base_le hO.out g e)⟩
      case measure => simp [intOf]; omega
    · obtain rfl : m = N := by omega
      go_wp2
      go_ret
      exact ⟨⟨_, rfl, by rw [HNN.out]; exact Own1.less hO.out (by have := hb1.size; omega)⟩, hb1.trans (hB.mono hb1.size)⟩
/-- Where the run of place e ends, up to n. -/
structure EndAt (C : Nat → Bool) (n s e : Nat) : Prop where
  le : s ≤ e
  lt : e < n
  all : ∀ j, s ≤ j → j ≤ e → C j = true
  stop : e + 1 = n ∨ C (e + 1) = false
theorem EndAt.uniq {C : Nat → Bool} {n s e e' : Nat} (h : EndAt C n s e) (h' : EndAt C n s e') : e = e' := by
  rcases Nat.lt_trichotomy e e' with h1 | h1 | h1
  · have := h'.all (e + 1) (by have := h.le; omega) (by omega)
    rcases h.stop with h2 | h2
    · have := h'.lt; omega
    · rw [this] at h2; cases h2
  · exact h1
  · have := h.all (e' + 1) (by have := h'.le; omega) (by omega)
    rcases h'.stop with h2 | h2
    · have := h.lt; omega
    · rw [this] at h2; cases h2
/-- What the reference has laid behind i places: the runs that ended, and the one that goes on, to its end. -/
def RefAt (C : Nat → Bool) (n i : Nat) (l : List (Nat × Nat)) : Prop :=
  ((rs C i).2 = none ∧ l = (rs C i).1) ∨ ∃ s e, (rs C i).2 = some s ∧ EndAt C n s e ∧ l = (rs C i).1 ++ [(s, e)]
theorem refAt_end {C : Nat → Bool} {n : Nat} {l : List (Nat × Nat)} (h : RefAt C n n l) : l = runs C n := by
  have I := rInv C n
  unfold runs
  rcases h with ⟨h1, h2⟩ | ⟨s, e, h1, h2, h3⟩
  · rw [h1]; exact h2
  · rw [h1]
    have := I.op s h1
    have e1 : e = n - 1 := h2.uniq ⟨by omega, by omega, fun j h4 h5 => this.2.1 j h4 (by omega), .inl (by omega)⟩
    rw [h3, e1]
theorem refAt_len {C : Nat → Bool} {n i : Nat} {l : List (Nat × Nat)} (h : RefAt C n i l) : l.length ≤ i + 1 := by
  have := (runs_len_le C i).1
  rcases h with ⟨_, h2⟩ | ⟨s, e, _, _, h3⟩
  · rw [h2]; omega
  · rw [h3]; simp; omega
/-- A place that begins no run leaves the reference as it was. -/
theorem refAt_skip {C : Nat → Bool} {n i : Nat} {l : List (Nat × Nat)} (h : RefAt C n i l) (hi : i < n) (hs : C i = false ∨ (0 < i ∧ C (i - 1) = true)) : RefAt C n (i + 1) l := by
  have I := rInv C i
  unfold RefAt at h ⊢
  rw [show rs C (i + 1) = (match C i, (rs C i).2 with
        | true, none => ((rs C i).1, some i)
        | true, some s => ((rs C i).1, some s)
        | false, none => ((rs C i).1, none)
        | false, some s => ((rs C i).1 ++ [(s, i - 1)], none)) from rfl]
  rcases h with ⟨h1, h2⟩ | ⟨s, e, h1, h2, h3⟩
  · rw [h1]
    have hc : C i = false := by
      rcases hs with hs | hs
      · exact hs
      · rcases I.cl h1 with h3 | h3
        · omega
        · rw [hs.2] at h3; cases h3
    rw [hc]
    exact .inl ⟨rfl, h2⟩
  · rw [h1]
    have hop := I.op s h1
    cases hc : C i
    · have e1 : e = i - 1 := h2.uniq ⟨by omega, by omega, fun j h4 h5 => hop.2.1 j h4 (by omega), .inr (by rw [show i - 1 + 1 = i by omega]; exact hc)⟩
      exact .inl ⟨rfl, by rw [h3, e1]⟩
    · exact .inr ⟨s, e, rfl, h2, h3⟩
theorem refAt_new {C : Nat → Bool} {n i e : Nat} {l : List (Nat × Nat)} (h : RefAt C n i l) (hc : C i = true) (hp : i = 0 ∨ C (i - 1) = false) (he : EndAt C n i e) : RefAt C n (i + 1) (l ++ [(i, e)]) := by
  have I := rInv C i
  unfold RefAt at h ⊢
  rw [show rs C (i + 1) = (match C i, (rs C i).2 with
        | true, none => ((rs C i).1, some i)
        | true, some s => ((rs C i).1, some s)
        | false, none => ((rs C i).1, none)
        | false, some s => ((rs C i).1 ++ [(s, i - 1)], none)) from rfl]
  rcases h with ⟨h1, h2⟩ | ⟨s, e', h1, h2, h3⟩
  · rw [h1, hc]
    exact .inr ⟨i, e, rfl, he, by rw [h2]⟩
  · have hop := I.op s h1
    exfalso
    rcases hp with hp | hp
    · omega
    · rw [hop.2.1 (i - 1) (by omega) (by omega)] at hp; cases hp
set_option maxRecDepth 100000 in
set_option maxHeartbeats 3200000 in
theorem rruns_p (A : Option Addr) (n cap : Nat) (T : Nat → Int) (C : Nat → Bool) (w : World) (hn : n ≤ 9223372036854775807) (hc : n ≤ cap) (hcap : cap ≤ 9223372036854775807) (hb : Ps w w.heap.size A n T C) :
    Calls Try.prog 30 #[.slice A n cap] w fun e w' => (∃ v, e = .returned v ∧ Own2 w' w.heap.size 44 pr v (runs C (cntN n T))) ∧ Below w.heap.size w w' := by
  have hHb := Lib.hid hb; clear hb
  go_enter Try.func30, Try.ntmps30
  go_wp2_with fail
  refine (ras_p A n cap T C _ hn hc hcap w.heap.size (Nat.le_refl _) hHb.out).mono ?_
  rintro e w1 ⟨⟨A', cap', rfl, hps, hc', hcap''⟩, hb1⟩
  have h200 : cntN n T ≤ 200 := (sane_cntN n T).1
  generalize hNN : cntN n T = N at hps hc' h200 ⊢
  have HNN := Lib.hid hNN; clear hNN
  have hPs := Lib.hid (hps.more (show w.heap.size ≤ w1.heap.size from hb1.size)); clear hps hHb
  go_wp2
  go_loopw [4, 5] (fun vo i wr => ∃ m : Nat, m ≤ N ∧ i = .int .i64 m ∧ (∃ l, Hid (RefAt C N m l) ∧ Own2 wr w1.heap.size 44 pr vo l) ∧ Below w1.heap.size w1 wr) (fun _ i _ => N - (intOf i).toNat)
  case atStart => exact ⟨0, by omega, rfl, ⟨[], Lib.hid (.inl ⟨rfl, rfl⟩), Own2.nil_ _ _ _ _⟩, Below.refl _ _⟩
  case round =>
    obtain ⟨m, hm, rfl, ⟨l, hl, hown⟩, hB⟩ := hrel
    have hO := Lib.hid hown; clear hown
    by_cases hlt : m < N
    · obtain ⟨b0, off, rfl, hcell⟩ := Ps.one' hPs.out hB (by omega)
      obtain ⟨-, -, -, xc⟩ := hcell m hlt
      have Y1 := Lib.hid (fun (h : 0 < m) => (hcell (m - 1) (by omega)).2.2.2)
      clear hcell
      cases hcm : C m
      · have HN := Lib.hid (refAt_skip hl.out hlt (.inl hcm))
        rw [hcm] at xc
        clear hcm
        go_wp2
        go_roundw
        case rel => exact ⟨m + 1, by omega, by go_num, ⟨l, HN, hO.out⟩, hB⟩
        case measure => simp [intOf]; omega
      · rw [hcm] at xc
        have HCm := Lib.hid hcm
        clear hcm
        by_cases hm0 : m = 0
        · have HPm := Lib.hid (show m = 0 ∨ C (m - 1) = false from .inl hm0)
          have d0 : decide (0 < m) = false := decide_eq_false (by omega)
          have HM0 := Lib.hid hm0; clear hm0
          have hnl := Lib.hid (refAt_len hl.out)
          go_wp2
          go_loop [6] (fun x => ∃ e : Nat, m ≤ e ∧ e < N ∧ x = .int .i64 e ∧ Hid (∀ j, m ≤ j → j ≤ e → C j = true)) (fun x => N - (intOf x).toNat)
          case atStart => exact ⟨m, Nat.le_refl _, hlt, rfl, Lib.hid (fun j h1 h2 => by rw [show j = m by omega]; exact HCm.out)⟩
          case round =>
            obtain ⟨e, he1, he2, rfl, hall⟩ := hrel
            by_cases hen : e + 1 < N
            · obtain ⟨b1, off1, e1, hcell⟩ := Ps.one' hPs.out hB (by omega)
              cases e1
              obtain ⟨-, -, -, xe⟩ := hcell (e + 1) hen
              clear hcell
              cases hce : C (e + 1)
              · have HN := Lib.hid (refAt_new hl.out HCm.out HPm.out ⟨he1, he2, hall.out, .inr hce⟩)
                rw [hce] at xe
                clear hce
                have HLit := Lib.hid (Blk.new wr 44 #[.int .i64 (m : Int), .int .i64 (e : Int)])
                have hO2 := Lib.hid (hO.out.alloc (.cells #[.int .i64 (m : Int), .int .i64 (e : Int)] 44))
                go_wp2_with ((refine wpList_append_2 (by rfl) (.tmp 49) (.tmp 53) 37 (by rfl) w1.heap.size 44 (.agg #[.int .i64 0, .int .i64 0]) 16 Try.underlying37 infoP2 rfl pr _ l (by rfl) hO2.out (m, e) ⟨rfl, rfl⟩ wr.heap.size 1 44 (by rfl) HLit.out (by have := hnl.out; omega) (by have := hnl.out; omega) (by have := hB.size; simp; omega) ?_; intro v' w' hown' hgr hat))
                go_roundw
                case rel => exact ⟨m + 1, by omega, by go_num, ⟨_, HN, hown'⟩, (hB.alloc hB.size _).grown hgr (by have := hB.size; simp; omega) (fun g e => hO.out.base_le g e)⟩
                case measure => simp [intOf]; omega
              · have HAll := Lib.hid (show ∀ j, m ≤ j → j ≤ e + 1 → C j = true from fun j h1 h2 => by
                  rcases Nat.lt_or_ge e j with h3 | h3
                  · rw [show j = e + 1 by omega]; exact hce
                  · exact hall.out j h1 h3)
                rw [hce] at xe
                clear hce
                go_wp2
                go_round
                case rel => exact ⟨e + 1, by omega, hen, by go_num, HAll⟩
                case measure => simp [intOf]; omega
            · have HN := Lib.hid (refAt_new hl.out HCm.out HPm.out ⟨he1, he2, hall.out, .inl (by omega)⟩)
              have hc2 : decide (e + 1 < N) = false := decide_eq_false hen
              have HLit := Lib.hid (Blk.new wr 44 #[.int .i64 (m : Int), .int .i64 (e : Int)])
              have hO2 := Lib.hid (hO.out.alloc (.cells #[.int .i64 (m : Int), .int .i64 (e : Int)] 44))
              go_wp2_with ((refine wpList_append_2 (by rfl) (.tmp 49) (.tmp 53) 37 (by rfl) w1.heap.size 44 (.agg #[.int .i64 0, .int .i64 0]) 16 Try.underlying37 infoP2 rfl pr _ l (by rfl) hO2.out (m, e) ⟨rfl, rfl⟩ wr.heap.size 1 44 (by rfl) HLit.out (by have := hnl.out; omega) (by have := hnl.out; omega) (by have := hB.size; simp; omega) ?_; intro v' w' hown' hgr hat))
              go_roundw
              case rel => exact ⟨m + 1, by omega, by go_num, ⟨_, HN, hown'⟩, (hB.alloc hB.size _).grown hgr (by have := hB.size; simp; omega) (fun g e => hO.out.base_le g e)⟩
              case measure => simp [intOf]; omega
        · obtain ⟨j, hj⟩ : ∃ j, m - 1 = j := ⟨_, rfl⟩
          have y1 := Y1.out (by omega)
          have hPm0 : C j = false → (m = 0 ∨ C (m - 1) = false) := fun h => .inr (by rw [hj]; exact h)
          have hSk : C j = true → (0 < m ∧ C (m - 1) = true) := fun h => ⟨by omega, by rw [hj]; exact h⟩
          rw [hj] at y1
          have HSk := Lib.hid hSk; clear hSk
          have HPm0 := Lib.hid hPm0; clear hPm0
          have hjn : j < N := by omega
          have hmj : (m : Int) - 1 = (j : Int) := by omega
          have hm1 : 0 < m := by omega
          have HJ := Lib.hid hj
          have HM0 := Lib.hid hm0
          clear hj hm0
          cases hcj : C j
          · have HPm := Lib.hid (HPm0.out hcj)
            rw [hcj] at y1
            clear hcj
            have hnl := Lib.hid (refAt_len hl.out)
            go_wp2
            go_loop [6] (fun x => ∃ e : Nat, m ≤ e ∧ e < N ∧ x = .int .i64 e ∧ Hid (∀ j, m ≤ j → j ≤ e → C j = true)) (fun x => N - (intOf x).toNat)
            case atStart => exact ⟨m, Nat.le_refl _, hlt, rfl, Lib.hid (fun j h1 h2 => by rw [show j = m by omega]; exact HCm.out)⟩
            case round =>
              obtain ⟨e, he1, he2, rfl, hall⟩ := hrel
              by_cases hen : e + 1 < N
              · obtain ⟨b1, off1, e1, hcell⟩ := Ps.one' hPs.out hB (by omega)
                cases e1
                obtain ⟨-, -, -, xe⟩ := hcell (e + 1) hen
                clear hcell
                cases hce : C (e + 1)
                · have HN := Lib.hid (refAt_new hl.out HCm.out HPm.out ⟨he1, he2, hall.out, .inr hce⟩)
                  rw [hce] at xe
                  clear hce
                  have HLit := Lib.hid (Blk.new wr 44 #[.int .i64 (m : Int), .int .i64 (e : Int)])
                  have hO2 := Lib.hid (hO.out.alloc (.cells #[.int .i64 (m : Int), .int .i64 (e : Int)] 44))
                  go_wp2_with ((refine wpList_append_2 (by rfl) (.tmp 49) (.tmp 53) 37 (by rfl) w1.heap.size 44 (.agg #[.int .i64 0, .int .i64 0]) 16 Try.underlying37 infoP2 rfl pr _ l (by rfl) hO2.out (m, e) ⟨rfl, rfl⟩ wr.heap.size 1 44 (by rfl) HLit.out (by have := hnl.out; omega) (by have := hnl.out; omega) (by have := hB.size; simp; omega) ?_; intro v' w' hown' hgr hat))
                  go_roundw
                  case rel => exact ⟨m + 1, by omega, by go_num, ⟨_, HN, hown'⟩, (hB.alloc hB.size _).grown hgr (by have := hB.size; simp; omega) (fun g e => hO.out.base_le g e)⟩
                  case measure => simp [intOf]; omega
                · have HAll := Lib.hid (show ∀ j, m ≤ j → j ≤ e + 1 → C j = true from fun j h1 h2 => by
                    rcases Nat.lt_or_ge e j with h3 | h3
                    · rw [show j = e + 1 by omega]; exact hce
                    · exact hall.out j h1 h3)
                  rw [hce] at xe
                  clear hce
                  go_wp2
                  go_round
                  case rel => exact ⟨e + 1, by omega, hen, by go_num, HAll⟩
                  case measure => simp [intOf]; omega
              · have HN := Lib.hid (refAt_new hl.out HCm.out HPm.out ⟨he1, he2, hall.out, .inl (by omega)⟩)
                have hc2 : decide (e + 1 < N) = false := decide_eq_false hen
                have HLit := Lib.hid (Blk.new wr 44 #[.int .i64 (m : Int), .int .i64 (e : Int)])
                have hO2 := Lib.hid (hO.out.alloc (.cells #[.int .i64 (m : Int), .int .i64 (e : Int)] 44))
                go_wp2_with ((refine wpList_append_2 (by rfl) (.tmp 49) (.tmp 53) 37 (by rfl) w1.heap.size 44 (.agg #[.int .i64 0, .int .i64 0]) 16 Try.underlying37 infoP2 rfl pr _ l (by rfl) hO2.out (m, e) ⟨rfl, rfl⟩ wr.heap.size 1 44 (by rfl) HLit.out (by have := hnl.out; omega) (by have := hnl.out; omega) (by have := hB.size; simp; omega) ?_; intro v' w' hown' hgr hat))
                go_roundw
                case rel => exact ⟨m + 1, by omega, by go_num, ⟨_, HN, hown'⟩, (hB.alloc hB.size _).grown hgr (by have := hB.size; simp; omega) (fun g e => hO.out.base_le g e)⟩
                case measure => simp [intOf]; omega
          · have HN := Lib.hid (refAt_skip hl.out hlt (.inr (HSk.out hcj)))
            rw [hcj] at y1
            clear hcj
            go_wp2
            go_roundw
            case rel => exact ⟨m + 1, by omega, by go_num, ⟨l, HN, hO.out⟩, hB⟩
            case measure => simp [intOf]; omega
    · obtain rfl : m = N := by omega
      have hE := Lib.hid (refAt_end hl.out)
      go_wp2
      go_ret
      exact ⟨⟨_, rfl, by rw [HNN.out, ← hE.out]; exact hO.out.less hb1.size⟩, hb1.trans (hB.mono hb1.size)⟩
end Go.Proofs.Ytcmhceilbampiaa
