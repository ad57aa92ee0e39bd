-- by a program of this session, over the kit's printer
import Derived.Test.YtdllkibfikcfbaaDoorKx0
namespace Go.Proofs.YtdllkibfikcfbaaDoor.K
open Go.RowKit Go.Proofs.YtdllkibfikcfbaaDoorW.PrintWords Go.Proofs.YtdllkibfikcfbaaDoorW.PrintLast Go.Proofs.YtdllkibfikcfbaaDoorW.PrintMore
attribute [local go_sem] max2_int min2_int max_two min_two max_three min_three max_four min_four   -- for this text's walks alone
set_option linter.unusedVariables false
set_option linter.unusedSimpArgs false

/-! ### keep_tax: function 26 -/
mutual
def keep_tax.l0 : Nat → Int → Int → Int → List (List (S41)) → Int → Int → Option (Int × Int × Int)
  | 0, _, _, _, _, _, _ => none
  | k + 1, x5, x6, x7, x15, x16, x17 => if x17 < x16 then (if 0 ≤ x17 then (if x17 < (x15.length : Int) then (keep_tax.l1 k x5 x6 x7 x17 x15 x16 x17 (rd_L2 x15 x17) ((rd_L2 x15 x17).length : Int) 0) else (none)) else (none)) else (some (x5, x6, x7))
def keep_tax.l1 : Nat → Int → Int → Int → Int → List (List (S41)) → Int → Int → List (S41) → Int → Int → Option (Int × Int × Int)
  | 0, _, _, _, _, _, _, _, _, _, _ => none
  | k + 1, x5, x6, x7, x8, x15, x16, x17, x22, x23, x24 => if x24 < x23 then (if 0 ≤ x24 then (if x24 < (x22.length : Int) then (if ((rd_T41 x22 x24).f1) > x5 then (keep_tax.l1 k ((rd_T41 x22 x24).f1) x8 x24 x8 x15 x16 x17 x22 x23 (wrap64 (x24 + 1))) else (keep_tax.l1 k x5 x6 x7 x8 x15 x16 x17 x22 x23 (wrap64 (x24 + 1)))) else (none)) else (none)) else (keep_tax.l0 k x5 x6 x7 x15 x16 (wrap64 (x17 + 1)))
end
def keep_tax.f (k : Nat) (l0_0 : List (List (S41))) (l0_1 : List (S43)) (l0_2 : List (S58)) (a0_3 : Int) (a0_4 : Int) : Option (Int × Int × Int) := keep_tax.l0 k a0_3 (-1) (-1) l0_0 (l0_0.length : Int) 0
set_option maxHeartbeats 8000000 in
set_option maxRecDepth 100000 in
theorem keep_tax.calls (k : Nat) (A0_0 : Option Addr) (c0_0 : Nat) (l0_0 : List (List (S41))) (A0_1 : Option Addr) (c0_1 : Nat) (l0_1 : List (S43)) (A0_2 : Option Addr) (c0_2 : Nat) (l0_2 : List (S58)) (a0_3 : Int) (a0_4 : Int) (r1 : Int) (r2 : Int) (r3 : Int) (w : World) (hr0_0 : Kd.C (Kd.slice 52 k41) w A0_0 l0_0.length l0_0) (hc0_0 : l0_0.length ≤ c0_0) (hr0_1 : Kd.C k43 w A0_1 l0_1.length l0_1) (hc0_1 : l0_1.length ≤ c0_1) (hr0_2 : Kd.C k58 w A0_2 l0_2.length l0_2) (hc0_2 : l0_2.length ≤ c0_2) (h : keep_tax.f k l0_0 l0_1 l0_2 a0_3 a0_4 = some (r1, r2, r3)) :
    Calls Tryd.prog 25 #[.agg #[.slice A0_0 l0_0.length c0_0, .slice A0_1 l0_1.length c0_1, .slice A0_2 l0_2.length c0_2, .int .i64 a0_3, .int .i64 a0_4]] w fun e w' => e = .returned (.tuple #[.int .i64 r1, .int .i64 r2, .int .i64 r3]) ∧ Below w.heap.size w w' := by
  have hu26 := Tryd.underlying26
  have hu41 := Tryd.underlying52
  have HR0_0 := AM hr0_0
  have HC0_0 := AM hc0_0
  clear hr0_0 hc0_0
  have HR0_1 := AM hr0_1
  have HC0_1 := AM hc0_1
  clear hr0_1 hc0_1
  have HR0_2 := AM hr0_2
  have HC0_2 := AM hc0_2
  clear hr0_2 hc0_2
  have HB := AM (Below.refl w.heap.size w)
  have H : (keep_tax.l0 k a0_3 (-1) (-1) l0_0 (l0_0.length : Int) 0) = some (r1, r2, r3) := h
  clear h
  have H' := AM H
  clear H
  go_enter Tryd.func25, Tryd.ntmps25
  go_wp2_with (first | ((with_reducible refine gD (N := 1) rfl ?_); refine bE ?hg (N := 1) ?hd (cs := #[.slice A0_0 l0_0.length c0_0, .slice A0_1 l0_1.length c0_1, .slice A0_2 l0_2.length c0_2, .int .i64 a0_3, .int .i64 a0_4]) (t := 26) ?hr ?_; (case hd => rfl); (case hg => rfl); (case hr => first | (go_simp; done) | (go_simp; rfl)); intro gb148 hg w2 hbox hb; have n0_ := AM (bT bQ hb); have n1_ := AM (hbox); have n2_ := AM ((by rw [hg]; exact (bZ bQ) : w.heap.size ≤ gb148)); have n3_ := AM ((by rw [hg]; exact (bZ bQ) : w.heap.size ≤ gb148)); clear HB; have HB := n0_; have BK148 := n1_; have GW148 := n2_; have GE148 := n3_; clear n0_ n1_ n2_ n3_; clear hb hbox hg; obtain ⟨_, _, _, _, _, _, _, _, _, _⟩ := bX5 BK148.out))
  go_loopg [5, 6, 7, 17] k (fun kq v5 v6 v7 v17 w' => ∃ (x5_1 : Int) (x6_1 : Int) (x7_1 : Int) (x17_1 : Int), v5 = .int .i64 x5_1 ∧ v6 = .int .i64 x6_1 ∧ v7 = .int .i64 x7_1 ∧ v17 = .int .i64 x17_1 ∧ Aside0 (keep_tax.l0 kq x5_1 x6_1 x7_1 l0_0 (l0_0.length : Int) x17_1 = some (r1, r2, r3)) ∧ Aside0 (kq ≤ k) ∧ Aside0 (w'.heap[gb148]? = some (.cells #[(.slice A0_0 l0_0.length c0_0), (.slice A0_1 l0_1.length c0_1), (.slice A0_2 l0_2.length c0_2), .int .i64 a0_3, .int .i64 a0_4] 26 (0, 0))) ∧ Aside0 (Below w.heap.size w w'))
  case atStart => exact ⟨(a0_3), ((-1)), ((-1)), (0), (by first | rfl | (simp; done) | (simp [*]; done)), (by first | rfl | (simp; done) | (simp [*]; done)), (by first | rfl | (simp; done) | (simp [*]; done)), (by first | rfl | (simp; done) | (simp [*]; done)), H', ⟨Nat.le_refl _⟩, ⟨by (with_reducible repeat (first | refine kD ?_ _ | refine k1_ ?_ | refine kA ?_ _)); exact BK148.out⟩, ⟨by repeat (first | (with_reducible first | exact HB.out | apply bA | apply bD | apply b1 | refine bS ?_ GE148.out) | exact HB.out)⟩⟩
  case round =>
    clear H'
    obtain ⟨x5_1, x6_1, x7_1, x17_1, rfl, rfl, rfl, rfl, HA, HK1, BK148, HB⟩ := hrel
    cases gk with
    | zero => exact absurd HA.out (by simp [keep_tax.l0])
    | succ k1 =>
      have H := HA.out
      clear HA
      simp only [keep_tax.l0] at H
      by_cases c4 : x17_1 < (l0_0.length : Int)
      rotate_left
      · rw [if_neg c4] at H
        have c4b0 := decide_eq_false c4
        clear c4
        simp only [Option.some.injEq, Prod.mk.injEq] at H
        obtain ⟨rfl, rfl, rfl⟩ := H
        go_wp2
        go_ret3
        exact ⟨by first | rfl | (simp [errW_none, errW_some] <;> rfl) | (simp [*, errW_none, errW_some] <;> rfl), by repeat (first | (with_reducible first | exact HB.out | apply bA | apply bD | apply b1 | refine bS ?_ GE148.out) | exact HB.out)⟩

      rw [if_pos c4] at H
      have c4b0 := decide_eq_true c4
      clear c4
      by_cases c5 : 0 ≤ x17_1
      rotate_left
      · rw [if_neg c5] at H
        exact absurd H (by simp)
      rw [if_pos c5] at H
      have c5b0 := decide_eq_true c5
      clear c5
      by_cases c6 : x17_1 < (l0_0.length : Int)
      rotate_left
      · rw [if_neg c6] at H
        exact absurd H (by simp)
      rw [if_pos c6] at H
      have c6b0 := decide_eq_true c6
      clear c6
      have H' := AM H
      clear H
      have p149 : 0 ≤ (x17_1 : Int) := of_decide_eq_true (by first | (with_reducible assumption) | assumption)
      have q149 : x17_1 < (l0_0.length : Int) := of_decide_eq_true (by first | (with_reducible assumption) | assumption)
      obtain ⟨ad149, A149_0, c149_0, e149, hx149_0, hl149_0, hi149_0⟩ := at_L2 HR0_0.out x17_1 p149 q149
      cases e149
      replace hx149_0 := (HB.out.cell (bL w _ hx149_0)).trans hx149_0
      have HR149_0 := AM hi149_0
      have HC149_0 := AM hl149_0
      clear hi149_0 hl149_0
      replace p149 := eq_true p149
      replace q149 := eq_true q149
      go_wp2
      go_loopg [5, 6, 7, 24] k1 (fun kq v5 v6 v7 v24 w' => ∃ (x5_2 : Int) (x6_2 : Int) (x7_2 : Int) (x24_2 : Int), v5 = .int .i64 x5_2 ∧ v6 = .int .i64 x6_2 ∧ v7 = .int .i64 x7_2 ∧ v24 = .int .i64 x24_2 ∧ Aside0 (keep_tax.l1 kq x5_2 x6_2 x7_2 x17_1 l0_0 (l0_0.length : Int) x17_1 (rd_L2 l0_0 x17_1) ((rd_L2 l0_0 x17_1).length : Int) x24_2 = some (r1, r2, r3)) ∧ Aside0 (kq ≤ k1) ∧ Aside0 (w'.heap[gb148]? = some (.cells #[(.slice (some ad149) l0_0.length c0_0), (.slice A0_1 l0_1.length c0_1), (.slice A0_2 l0_2.length c0_2), .int .i64 a0_3, .int .i64 a0_4] 26 (0, 0))) ∧ Aside0 (Below w.heap.size w w'))
      case atStart => exact ⟨(x5_1), (x6_1), (x7_1), (0), (by first | rfl | (simp; done) | (simp [*]; done)), (by first | rfl | (simp; done) | (simp [*]; done)), (by first | rfl | (simp; done) | (simp [*]; done)), (by first | rfl | (simp; done) | (simp [*]; done)), H', ⟨Nat.le_refl _⟩, ⟨by (with_reducible repeat (first | refine kD ?_ _ | refine k1_ ?_ | refine kA ?_ _)); exact BK148.out⟩, ⟨by repeat (first | (with_reducible first | exact HB.out | apply bA | apply bD | apply b1 | refine bS ?_ GE148.out) | exact HB.out)⟩⟩
      case round =>
        clear H'
        obtain ⟨x5_2, x6_2, x7_2, x24_2, rfl, rfl, rfl, rfl, HA, HK2, BK148, HB⟩ := hrel
        cases gk with
        | zero => exact absurd HA.out (by simp [keep_tax.l1])
        | succ k2 =>
          have H := HA.out
          clear HA
          simp only [keep_tax.l1] at H
          by_cases c7 : x24_2 < ((rd_L2 l0_0 x17_1).length : Int)
          rotate_left
          · rw [if_neg c7] at H
            have c7b0 := decide_eq_false c7
            clear c7
            have H' := AM H
            clear H
            go_wp2
            go_roundg k2
            case measure => have := HK1.out; have := HK2.out; omega
            case rel => exact ⟨(x5_2), (x6_2), (x7_2), (wrap64 (x17_1 + 1)), (by first | rfl | (simp; done) | (simp [*]; done)), (by first | rfl | (simp; done) | (simp [*]; done)), (by first | rfl | (simp; done) | (simp [*]; done)), (by first | rfl | (simp; done) | (simp [*]; done)), H', ⟨by have := HK1.out; have := HK2.out; omega⟩, ⟨by (with_reducible repeat (first | refine kD ?_ _ | refine k1_ ?_ | refine kA ?_ _)); exact BK148.out⟩, ⟨by repeat (first | (with_reducible first | exact HB.out | apply bA | apply bD | apply b1 | refine bS ?_ GE148.out) | exact HB.out)⟩⟩
          rw [if_pos c7] at H
          have c7b0 := decide_eq_true c7
          clear c7
          by_cases c8 : 0 ≤ x24_2
          rotate_left
          · rw [if_neg c8] at H
            exact absurd H (by simp)
          rw [if_pos c8] at H
          have c8b0 := decide_eq_true c8
          clear c8
          by_cases c9 : x24_2 < ((rd_L2 l0_0 x17_1).length : Int)
          rotate_left
          · rw [if_neg c9] at H
            exact absurd H (by simp)
          rw [if_pos c9] at H
          have c9b0 := decide_eq_true c9
          clear c9
          by_cases c10 : ((rd_T41 (rd_L2 l0_0 x17_1) x24_2).f1) > x5_2
          rotate_left
          · rw [if_neg c10] at H
            have c10b0 := decide_eq_false c10
            clear c10
            have H' := AM H
            clear H
            have p150 : 0 ≤ (x24_2 : Int) := of_decide_eq_true (by first | (with_reducible assumption) | assumption)
            have q150 : x24_2 < ((rd_L2 l0_0 x17_1).length : Int) := of_decide_eq_true (by first | (with_reducible assumption) | assumption)
            obtain ⟨ad150, e150, hx150_0, hx150_1, hx150_2⟩ := at_T41 HR149_0.out x24_2 p150 q150
            cases e150
            replace hx150_0 := (HB.out.cell (bL w _ hx150_0)).trans hx150_0
            replace hx150_1 := (HB.out.cell (bL w _ hx150_1)).trans hx150_1
            replace hx150_2 := (HB.out.cell (bL w _ hx150_2)).trans hx150_2
            replace p150 := eq_true p150
            replace q150 := eq_true q150
            go_wp2_with (first | ((with_reducible refine gD (N := 11) rfl ?_); refine bE ?hg (N := 11) ?hd (cs := #[.int .i64 0, .int .i64 0, .int .i64 0]) (t := 52) ?hr ?_; (case hd => rfl); (case hg => rfl); (case hr => first | (go_simp; done) | (go_simp; rfl)); intro gb151 hg w14 hbox hb; have n0_ := AM (kB (g := gb148) (o := .cells #[.slice (some ad149) l0_0.length c0_0, .slice A0_1 l0_1.length c0_1, .slice A0_2 l0_2.length c0_2, .int .i64 a0_3, .int .i64 a0_4] 26 (0, 0)) (kW BK148) hb); have n1_ := AM (bT bQ hb); have n2_ := AM (hbox); have n3_ := AM ((by rw [hg]; exact (bZ bQ) : w.heap.size ≤ gb151)); have n4_ := AM ((by rw [hg]; exact (bZ bQ) : w.heap.size ≤ gb151)); have n5_ := AM ((by rw [hg]; exact Nat.ne_of_lt (blk_lt (g := gb148) (o := .cells #[.slice (some ad149) l0_0.length c0_0, .slice A0_1 l0_1.length c0_1, .slice A0_2 l0_2.length c0_2, .int .i64 a0_3, .int .i64 a0_4] 26 (0, 0)) (kW BK148)) : gb148 ≠ gb151)); have n6_ := AM ((by rw [hg]; exact Nat.ne_of_gt (blk_lt (g := gb148) (o := .cells #[.slice (some ad149) l0_0.length c0_0, .slice A0_1 l0_1.length c0_1, .slice A0_2 l0_2.length c0_2, .int .i64 a0_3, .int .i64 a0_4] 26 (0, 0)) (kW BK148)) : gb151 ≠ gb148)); clear BK148; clear HB; have BK148 := n0_; have HB := n1_; have BK151 := n2_; have GW151 := n3_; have GE151 := n4_; have NB148_151 := n5_; have NB151_148 := n6_; clear n0_ n1_ n2_ n3_ n4_ n5_ n6_; clear hb hbox hg; have hnb15 := NB151_148.out; have hnc15 := NB148_151.out; obtain ⟨_, _, _, _, _, _⟩ := bX3 BK151.out))
            go_roundg k2
            case measure => have := HK1.out; have := HK2.out; omega
            case rel => exact ⟨(x5_2), (x6_2), (x7_2), (wrap64 (x24_2 + 1)), (by first | rfl | (simp; done) | (simp [*]; done)), (by first | rfl | (simp; done) | (simp [*]; done)), (by first | rfl | (simp; done) | (simp [*]; done)), (by first | rfl | (simp; done) | (simp [*]; done)), H', ⟨by have := HK1.out; have := HK2.out; omega⟩, ⟨by (with_reducible repeat (first | refine kD ?_ _ | refine k1_ ?_ | refine kA ?_ _)); refine kF ?_ NB148_151.out _; (with_reducible repeat (first | refine kD ?_ _ | refine k1_ ?_ | refine kA ?_ _)); refine kF ?_ NB148_151.out _; (with_reducible repeat (first | refine kD ?_ _ | refine k1_ ?_ | refine kA ?_ _)); refine kF ?_ NB148_151.out _; (with_reducible repeat (first | refine kD ?_ _ | refine k1_ ?_ | refine kA ?_ _)); exact BK148.out⟩, ⟨by repeat (first | (with_reducible first | exact HB.out | apply bA | apply bD | apply b1 | refine bS ?_ GE148.out | refine bS ?_ GE151.out) | exact HB.out)⟩⟩
          rw [if_pos c10] at H
          have c10b0 := decide_eq_true c10
          clear c10
          have H' := AM H
          clear H
          have p150 : 0 ≤ (x24_2 : Int) := of_decide_eq_true (by first | (with_reducible assumption) | assumption)
          have q150 : x24_2 < ((rd_L2 l0_0 x17_1).length : Int) := of_decide_eq_true (by first | (with_reducible assumption) | assumption)
          obtain ⟨ad150, e150, hx150_0, hx150_1, hx150_2⟩ := at_T41 HR149_0.out x24_2 p150 q150
          cases e150
          replace hx150_0 := (HB.out.cell (bL w _ hx150_0)).trans hx150_0
          replace hx150_1 := (HB.out.cell (bL w _ hx150_1)).trans hx150_1
          replace hx150_2 := (HB.out.cell (bL w _ hx150_2)).trans hx150_2
          replace p150 := eq_true p150
          replace q150 := eq_true q150
          go_wp2_with (first | ((with_reducible refine gD (N := 11) rfl ?_); refine bE ?hg (N := 11) ?hd (cs := #[.int .i64 0, .int .i64 0, .int .i64 0]) (t := 52) ?hr ?_; (case hd => rfl); (case hg => rfl); (case hr => first | (go_simp; done) | (go_simp; rfl)); intro gb151 hg w11 hbox hb; have n0_ := AM (kB (g := gb148) (o := .cells #[.slice (some ad149) l0_0.length c0_0, .slice A0_1 l0_1.length c0_1, .slice A0_2 l0_2.length c0_2, .int .i64 a0_3, .int .i64 a0_4] 26 (0, 0)) (kW BK148) hb); have n1_ := AM (bT bQ hb); have n2_ := AM (hbox); have n3_ := AM ((by rw [hg]; exact (bZ bQ) : w.heap.size ≤ gb151)); have n4_ := AM ((by rw [hg]; exact (bZ bQ) : w.heap.size ≤ gb151)); have n5_ := AM ((by rw [hg]; exact Nat.ne_of_lt (blk_lt (g := gb148) (o := .cells #[.slice (some ad149) l0_0.length c0_0, .slice A0_1 l0_1.length c0_1, .slice A0_2 l0_2.length c0_2, .int .i64 a0_3, .int .i64 a0_4] 26 (0, 0)) (kW BK148)) : gb148 ≠ gb151)); have n6_ := AM ((by rw [hg]; exact Nat.ne_of_gt (blk_lt (g := gb148) (o := .cells #[.slice (some ad149) l0_0.length c0_0, .slice A0_1 l0_1.length c0_1, .slice A0_2 l0_2.length c0_2, .int .i64 a0_3, .int .i64 a0_4] 26 (0, 0)) (kW BK148)) : gb151 ≠ gb148)); clear BK148; clear HB; have BK148 := n0_; have HB := n1_; have BK151 := n2_; have GW151 := n3_; have GE151 := n4_; have NB148_151 := n5_; have NB151_148 := n6_; clear n0_ n1_ n2_ n3_ n4_ n5_ n6_; clear hb hbox hg; have hnb12 := NB151_148.out; have hnc12 := NB148_151.out; obtain ⟨_, _, _, _, _, _⟩ := bX3 BK151.out))
          go_roundg k2
          case measure => have := HK1.out; have := HK2.out; omega
          case rel => exact ⟨((rd_T41 (rd_L2 l0_0 x17_1) x24_2).f1), (x17_1), (x24_2), (wrap64 (x24_2 + 1)), (by first | rfl | (simp; done) | (simp [*]; done)), (by first | rfl | (simp; done) | (simp [*]; done)), (by first | rfl | (simp; done) | (simp [*]; done)), (by first | rfl | (simp; done) | (simp [*]; done)), H', ⟨by have := HK1.out; have := HK2.out; omega⟩, ⟨by (with_reducible repeat (first | refine kD ?_ _ | refine k1_ ?_ | refine kA ?_ _)); refine kF ?_ NB148_151.out _; (with_reducible repeat (first | refine kD ?_ _ | refine k1_ ?_ | refine kA ?_ _)); refine kF ?_ NB148_151.out _; (with_reducible repeat (first | refine kD ?_ _ | refine k1_ ?_ | refine kA ?_ _)); refine kF ?_ NB148_151.out _; (with_reducible repeat (first | refine kD ?_ _ | refine k1_ ?_ | refine kA ?_ _)); exact BK148.out⟩, ⟨by repeat (first | (with_reducible first | exact HB.out | apply bA | apply bD | apply b1 | refine bS ?_ GE148.out | refine bS ?_ GE151.out) | exact HB.out)⟩⟩
/-! ### band_Top: function 27 -/
def band_Top.l0 : Nat → Int → List (S41) → Int → Int → Option (Int)
  | 0, _, _, _, _ => none
  | k + 1, x3, x6, x7, x8 => if x8 < x7 then (if 0 ≤ x8 then (if x8 < (x6.length : Int) then (band_Top.l0 k (mx x3 ((rd_T41 x6 x8).f1)) x6 x7 (wrap64 (x8 + 1))) else (none)) else (none)) else (some x3)
def band_Top.f (k : Nat) (l0 : List (S41)) : Option (Int) := band_Top.l0 k 0 l0 (l0.length : Int) 0
set_option maxHeartbeats 8000000 in
set_option maxRecDepth 100000 in
theorem band_Top.calls (k : Nat) (A0 : Option Addr) (c0 : Nat) (l0 : List (S41)) (r : Int) (w : World) (hr0 : Kd.C k41 w A0 l0.length l0) (hc0 : l0.length ≤ c0) (h : band_Top.f k l0 = some r) :
    Calls Tryd.prog 26 #[.slice A0 l0.length c0] w fun e w' => e = .returned (.int .i64 r) ∧ Below w.heap.size w w' := by
  have hu41 := Tryd.underlying52
  have HR0 := AM hr0
  have HC0 := AM hc0
  clear hr0 hc0
  have HB := AM (Below.refl w.heap.size w)
  have H : (band_Top.l0 k 0 l0 (l0.length : Int) 0) = some r := h
  clear h
  have H' := AM H
  clear H
  go_enter Tryd.func26, Tryd.ntmps26
  go_wp2
  go_loopg [3, 8] k (fun kq v3 v8 w' => ∃ (x3_1 : Int) (x8_1 : Int), v3 = .int .i64 x3_1 ∧ v8 = .int .i64 x8_1 ∧ Aside0 (band_Top.l0 kq x3_1 l0 (l0.length : Int) x8_1 = some r) ∧ Aside0 (kq ≤ k) ∧ Aside0 (Below w.heap.size w w'))
  case atStart => exact ⟨(0), (0), (by first | rfl | (simp; done) | (simp [*]; done)), (by first | rfl | (simp; done) | (simp [*]; done)), H', ⟨Nat.le_refl _⟩, ⟨by repeat (first | (with_reducible first | exact HB.out | apply bA | apply bD | apply b1) | exact HB.out)⟩⟩
  case round =>
    clear H'
    obtain ⟨x3_1, x8_1, rfl, rfl, HA, HK1, HB⟩ := hrel
    cases gk with
    | zero => exact absurd HA.out (by simp [band_Top.l0])
    | succ k1 =>
      have H := HA.out
      clear HA
      simp only [band_Top.l0] at H
      by_cases c2 : x8_1 < (l0.length : Int)
      rotate_left
      · rw [if_neg c2] at H
        have c2b0 := decide_eq_false c2
        clear c2
        obtain rfl := Option.some.inj H
        go_wp2
        go_ret
        exact ⟨by first | rfl | (simp [errW_none, errW_some] <;> rfl) | (simp [*, errW_none, errW_some] <;> rfl), by repeat (first | (with_reducible first | exact HB.out | apply bA | apply bD | apply b1) | exact HB.out)⟩

      rw [if_pos c2] at H
      have c2b0 := decide_eq_true c2
      clear c2
      by_cases c3 : 0 ≤ x8_1
      rotate_left
      · rw [if_neg c3] at H
        exact absurd H (by simp)
      rw [if_pos c3] at H
      have c3b0 := decide_eq_true c3
      clear c3
      by_cases c4 : x8_1 < (l0.length : Int)
      rotate_left
      · rw [if_neg c4] at H
        exact absurd H (by simp)
      rw [if_pos c4] at H
      have c4b0 := decide_eq_true c4
      clear c4
      obtain ⟨ji5, hji5⟩ : ∃ j_ : Int, (mx x3_1 ((rd_T41 l0 x8_1).f1)) = j_ := ⟨_, rfl⟩
      replace H : (band_Top.l0 k1 ji5 l0 (l0.length : Int) (wrap64 (x8_1 + 1))) = some r := by first | (rw [hji5] at H; exact H) | (simp only [hji5] at H ⊢; exact H)
      have hji5_ : (if x3_1 < ((rd_T41 l0 x8_1).f1) then ((rd_T41 l0 x8_1).f1) else x3_1) = ji5 := hji5
      have H' := AM H
      clear H
      have p152 : 0 ≤ (x8_1 : Int) := of_decide_eq_true (by first | (with_reducible assumption) | assumption)
      have q152 : x8_1 < (l0.length : Int) := of_decide_eq_true (by first | (with_reducible assumption) | assumption)
      obtain ⟨ad152, e152, hx152_0, hx152_1, hx152_2⟩ := at_T41 HR0.out x8_1 p152 q152
      cases e152
      replace hx152_0 := (HB.out.cell (bL w _ hx152_0)).trans hx152_0
      replace hx152_1 := (HB.out.cell (bL w _ hx152_1)).trans hx152_1
      replace hx152_2 := (HB.out.cell (bL w _ hx152_2)).trans hx152_2
      replace p152 := eq_true p152
      replace q152 := eq_true q152
      go_wp2_with (first | ((with_reducible refine gD (N := 5) rfl ?_); refine bE ?hg (N := 5) ?hd (cs := #[.int .i64 0, .int .i64 0, .int .i64 0]) (t := 52) ?hr ?_; (case hd => rfl); (case hg => rfl); (case hr => first | (go_simp; done) | (go_simp; rfl)); intro gb153 hg w6 hbox hb; have n0_ := AM (bT bQ hb); have n1_ := AM (hbox); have n2_ := AM ((by rw [hg]; exact (bZ bQ) : w.heap.size ≤ gb153)); have n3_ := AM ((by rw [hg]; exact (bZ bQ) : w.heap.size ≤ gb153)); clear HB; have HB := n0_; have BK153 := n1_; have GW153 := n2_; have GE153 := n3_; clear n0_ n1_ n2_ n3_; clear hb hbox hg; obtain ⟨_, _, _, _, _, _⟩ := bX3 BK153.out))
      go_roundg k1
      case measure => have := HK1.out; omega
      case rel => exact ⟨(ji5), (wrap64 (x8_1 + 1)), (by first | rfl | (simp; done) | (simp only [← hji5] <;> (first | rfl | simp)) | (simp [*]; done)), (by first | rfl | (simp; done) | (simp [*]; done)), H', ⟨by have := HK1.out; omega⟩, ⟨by repeat (first | (with_reducible first | exact HB.out | apply bA | apply bD | apply b1 | refine bS ?_ GE153.out) | exact HB.out)⟩⟩
end Go.Proofs.YtdllkibfikcfbaaDoor.K
