import Derived.Test.YtjljhianehhlgaaDoorQ0
import Derived.Test.YtjljhianehhlgaaDoorQ2
namespace Go.Proofs.YtjljhianehhlgaaDoor.K
open Go.RowKit Go.Proofs.YtjljhianehhlgaaDoorW.PrintWords Go.Proofs.YtjljhianehhlgaaDoorW.PrintLast Go.Proofs.YtjljhianehhlgaaDoorW.PrintMore
attribute [local go_sem] max2_int min2_int max_two min_two max_three min_three max_four min_four   -- for this text's walks alone
set_option linter.unusedVariables false
set_option linter.unusedSimpArgs false

/-! ### pair_Total: function 81 -/
def pair_Total.l0 : Nat → List (S64) → Int → Int → Int → Int → Option (Int × Int × Int)
  | 0, _, _, _, _, _ => none
  | k + 1, x10, x11, x12, x154000, x154001 => if x12 < x11 then (if 0 ≤ x12 then (if x12 < (x10.length : Int) then ((money_Add.f k x154000 ((rd_T64 x10 x12).f0)).bind fun bt156 => (if bt156.2 = 0 then ((money_Add.f k x154001 ((rd_T64 x10 x12).f1)).bind fun bt158 => (if bt158.2 = 0 then (pair_Total.l0 k x10 x11 (wrap64 (x12 + 1)) bt156.1 bt158.1) else (some (0, 0, bt158.2)))) else (some (0, 0, bt156.2)))) else (none)) else (none)) else (some (x154000, x154001, 0))
def pair_Total.f (k : Nat) (l0 : List (S64)) : Option (Int × Int × Int) := pair_Total.l0 k l0 (l0.length : Int) 0 0 0
set_option maxHeartbeats 8000000 in
set_option maxRecDepth 100000 in
theorem pair_Total.calls (k : Nat) (A0 : Option Addr) (c0 : Nat) (l0 : List (S64)) (r1 : Int) (r2 : Int) (r3 : Int) (w : World) (hr0 : Kd.C k64 w A0 l0.length l0) (hc0 : l0.length ≤ c0) (h : pair_Total.f k l0 = some (r1, r2, r3)) :
    Calls Tryd.prog 81 #[.slice A0 l0.length c0] w fun e w' => e = .returned (.tuple #[.agg #[.int .i64 r1, .int .i64 r2], .int .i64 r3]) ∧ Below w.heap.size w w' := by
  have hu64 := Tryd.underlying64
  have HR0 := AM hr0
  have HC0 := AM hc0
  clear hr0 hc0
  have HB := AM (Below.refl w.heap.size w)
  have H : (pair_Total.l0 k l0 (l0.length : Int) 0 0 0) = some (r1, r2, r3) := h
  clear h
  have H' := AM H
  clear H
  go_enter Tryd.func81, Tryd.ntmps81
  go_wp2_with (first | ((with_reducible refine gD (N := 2) rfl ?_); refine bE ?hg (N := 2) ?hd (cs := #[.int .i64 0, .int .i64 0]) (t := 64) ?hr ?_; (case hd => rfl); (case hg => rfl); (case hr => first | (go_simp; done) | (go_simp; rfl)); intro gb152 hg w2 hbox hb; have n0_ := AM (bT bQ hb); have n1_ := AM (hbox); have n2_ := AM ((by rw [hg]; exact (bZ bQ) : w.heap.size ≤ gb152)); have n3_ := AM ((by rw [hg]; exact (bZ bQ) : w.heap.size ≤ gb152)); clear HB; have HB := n0_; have BK152 := n1_; have GW152 := n2_; have GE152 := n3_; clear n0_ n1_ n2_ n3_; clear hb hbox hg) | ((with_reducible refine gD (N := 4) rfl ?_); refine bE ?hg (N := 4) ?hd (cs := #[.int .i64 0, .int .i64 0]) (t := 64) ?hr ?_; (case hd => rfl); (case hg => rfl); (case hr => first | (go_simp; done) | (go_simp; rfl)); intro gb153 hg w3 hbox hb; have n0_ := AM (kB (g := gb152) (o := .cells #[.int .i64 0, .int .i64 0] 64 (0, 0)) (kW BK152) hb); have n1_ := AM (bT bQ hb); have n2_ := AM (hbox); have n3_ := AM ((by rw [hg]; exact (bZ bQ) : w.heap.size ≤ gb153)); have n4_ := AM ((by rw [hg]; exact (bZ bQ) : w.heap.size ≤ gb153)); have n5_ := AM ((by rw [hg]; exact Nat.ne_of_lt (blk_lt (g := gb152) (o := .cells #[.int .i64 0, .int .i64 0] 64 (0, 0)) (kW BK152)) : gb152 ≠ gb153)); have n6_ := AM ((by rw [hg]; exact Nat.ne_of_gt (blk_lt (g := gb152) (o := .cells #[.int .i64 0, .int .i64 0] 64 (0, 0)) (kW BK152)) : gb153 ≠ gb152)); clear BK152; clear HB; have BK152 := n0_; have HB := n1_; have BK153 := n2_; have GW153 := n3_; have GE153 := n4_; have NB152_153 := n5_; have NB153_152 := n6_; clear n0_ n1_ n2_ n3_ n4_ n5_ n6_; clear hb hbox hg))
  go_loopg [12] k (fun kq v12 w' => ∃ (x12_1 : Int) (x153000_1 : Int) (x153001_1 : Int) (x154000_1 : Int) (x154001_1 : Int), v12 = .int .i64 x12_1 ∧ Aside0 (pair_Total.l0 kq l0 (l0.length : Int) x12_1 x154000_1 x154001_1 = some (r1, r2, r3)) ∧ Aside0 (kq ≤ k) ∧ Aside0 (w'.heap[gb152]? = some (.cells #[.int .i64 x153000_1, .int .i64 x153001_1] 64 (0, 0))) ∧ Aside0 (w'.heap[gb153]? = some (.cells #[.int .i64 x154000_1, .int .i64 x154001_1] 64 (0, 0))) ∧ Aside0 (Below w.heap.size w w'))
  case atStart => exact ⟨(0), (0), (0), (0), (0), (by first | rfl | (simp; done) | (simp [*]; done)), H', ⟨Nat.le_refl _⟩, ⟨by (with_reducible repeat (first | refine kD ?_ _ | refine k1_ ?_ | refine kA ?_ _)); exact BK152.out⟩, ⟨by (with_reducible repeat (first | refine kD ?_ _ | refine k1_ ?_ | refine kA ?_ _)); exact BK153.out⟩, ⟨by repeat (first | (with_reducible first | exact HB.out | apply bA | apply bD | apply b1 | refine bS ?_ GE152.out | refine bS ?_ GE153.out) | exact HB.out)⟩⟩
  case round =>
    clear H'
    obtain ⟨x12_1, x153000_1, x153001_1, x154000_1, x154001_1, rfl, HA, HK1, BK152, BK153, HB⟩ := hrel
    cases gk with
    | zero => exact absurd HA.out (by simp [pair_Total.l0])
    | succ k1 =>
      have H := HA.out
      clear HA
      simp only [pair_Total.l0] at H
      by_cases c4 : x12_1 < (l0.length : Int)
      rotate_left
      · rw [if_neg c4] at H
        have c4b0 := decide_eq_false c4
        clear c4
        simp only [Option.some.injEq, Prod.mk.injEq] at H
        obtain ⟨rfl, rfl, rfl⟩ := H
        have hnb41 := NB153_152.out
        have hnc41 := NB152_153.out
        obtain ⟨_, _, _, _⟩ := bX2 BK153.out
        obtain ⟨_, _, _, _⟩ := bX2 BK152.out
        go_wp2
        refine bodyPost_ret (results_ct rfl _ _ gb152 64 #[.int .i64 x154000_1, .int .i64 x154001_1] (0, 0) _ rfl (by (with_reducible repeat (first | refine kD ?_ _ | refine k1_ ?_ | refine kA ?_ _)); refine kP (cs := #[.int .i64 x154000_1, .int .i64 x153001_1]) ?_ 1 _ rfl; (with_reducible repeat (first | refine kD ?_ _ | refine k1_ ?_ | refine kA ?_ _)); refine kP (cs := #[.int .i64 x153000_1, .int .i64 x153001_1]) ?_ 0 _ rfl; (with_reducible repeat (first | refine kD ?_ _ | refine k1_ ?_ | refine kA ?_ _)); exact BK152.out) Tryd.underlying64 rfl (by kernel_rfl)) rfl ?_
        exact ⟨by first | rfl | (simp [errW_none, errW_some] <;> rfl) | (simp [*, errW_none, errW_some] <;> rfl), by repeat (first | (with_reducible first | exact HB.out | apply bA | apply bD | apply b1 | refine bS ?_ GE152.out | refine bS ?_ GE153.out) | exact HB.out)⟩

      rw [if_pos c4] at H
      have c4b0 := decide_eq_true c4
      clear c4
      by_cases c5 : 0 ≤ x12_1
      rotate_left
      · rw [if_neg c5] at H
        exact absurd H (by simp)
      rw [if_pos c5] at H
      have c5b0 := decide_eq_true c5
      clear c5
      by_cases c6 : x12_1 < (l0.length : Int)
      rotate_left
      · rw [if_neg c6] at H
        exact absurd H (by simp)
      rw [if_pos c6] at H
      have c6b0 := decide_eq_true c6
      clear c6
      replace H := Option.bind_eq_some_iff.mp H
      obtain ⟨⟨t156, t157⟩, A70, H⟩ := H
      replace H : (if t157 = 0 then ((money_Add.f k1 x154001_1 ((rd_T64 l0 x12_1).f1)).bind fun bt158 => (if bt158.2 = 0 then (pair_Total.l0 k1 l0 (l0.length : Int) (wrap64 (x12_1 + 1)) t156 bt158.1) else (some (0, 0, bt158.2)))) else (some (0, 0, t157))) = some (r1, r2, r3) := H
      have A7 := AM A70
      clear A70
      by_cases c8 : t157 = 0
      rotate_left
      · rw [if_neg c8] at H
        have c8b0 : (t157 == 0) = false := beq_eq_false_iff_ne.mpr c8
        have c8b1 : (t157 != 0) = true := bne_iff_ne.mpr c8
        simp only [Option.some.injEq, Prod.mk.injEq] at H
        obtain ⟨rfl, rfl, rfl⟩ := H
        have p154 : 0 ≤ (x12_1 : Int) := of_decide_eq_true (by first | (with_reducible assumption) | assumption)
        have q154 : x12_1 < (l0.length : Int) := of_decide_eq_true (by first | (with_reducible assumption) | assumption)
        obtain ⟨ad154, e154, hx154_0, hx154_1⟩ := at_T64 HR0.out x12_1 p154 q154
        cases e154
        replace hx154_0 := (HB.out.cell (bL w _ hx154_0)).trans hx154_0
        replace hx154_1 := (HB.out.cell (bL w _ hx154_1)).trans hx154_1
        replace p154 := eq_true p154
        replace q154 := eq_true q154
        go_wp2_with (first | ((with_reducible refine gD (N := 6) rfl ?_); refine bE ?hg (N := 6) ?hd (cs := #[.int .i64 0, .int .i64 0]) (t := 64) ?hr ?_; (case hd => rfl); (case hg => rfl); (case hr => first | (go_simp; done) | (go_simp; rfl)); intro gb155 hg w33 hbox hb; have n0_ := AM (kB (g := gb152) (o := .cells #[.int .i64 x153000_1, .int .i64 x153001_1] 64 (0, 0)) (kW BK152) hb); have n1_ := AM (kB (g := gb153) (o := .cells #[.int .i64 x154000_1, .int .i64 x154001_1] 64 (0, 0)) (kW BK153) hb); have n2_ := AM (bT bQ hb); have n3_ := AM (hbox); have n4_ := AM ((by rw [hg]; exact (bZ bQ) : w.heap.size ≤ gb155)); have n5_ := AM ((by rw [hg]; exact (bZ bQ) : w.heap.size ≤ gb155)); have n6_ := AM ((by rw [hg]; exact Nat.ne_of_lt (blk_lt (g := gb152) (o := .cells #[.int .i64 x153000_1, .int .i64 x153001_1] 64 (0, 0)) (kW BK152)) : gb152 ≠ gb155)); have n7_ := AM ((by rw [hg]; exact Nat.ne_of_gt (blk_lt (g := gb152) (o := .cells #[.int .i64 x153000_1, .int .i64 x153001_1] 64 (0, 0)) (kW BK152)) : gb155 ≠ gb152)); have n8_ := AM ((by rw [hg]; exact Nat.ne_of_lt (blk_lt (g := gb153) (o := .cells #[.int .i64 x154000_1, .int .i64 x154001_1] 64 (0, 0)) (kW BK153)) : gb153 ≠ gb155)); have n9_ := AM ((by rw [hg]; exact Nat.ne_of_gt (blk_lt (g := gb153) (o := .cells #[.int .i64 x154000_1, .int .i64 x154001_1] 64 (0, 0)) (kW BK153)) : gb155 ≠ gb153)); clear BK152; clear BK153; clear HB; have BK152 := n0_; have BK153 := n1_; have HB := n2_; have BK155 := n3_; have GW155 := n4_; have GE155 := n5_; have NB152_155 := n6_; have NB155_152 := n7_; have NB153_155 := n8_; have NB155_153 := n9_; clear n0_ n1_ n2_ n3_ n4_ n5_ n6_ n7_ n8_ n9_; clear hb hbox hg; have hnb34 := NB155_152.out; have hnc34 := NB152_155.out; have hnb35 := NB155_153.out; have hnc35 := NB153_155.out; obtain ⟨_, _, _, _⟩ := bX2 BK155.out; have hnb37 := NB153_152.out; have hnc37 := NB152_153.out; obtain ⟨_, _, _, _⟩ := bX2 BK153.out) | ((with_reducible refine gC (f := 36) rfl ?_); refine gL (some 21) rfl rfl Tryd.func36 (by kernel_rfl) rfl #[.int .i64 x154000_1, .int .i64 ((rd_T64 l0 x12_1).f0)] rfl (by (try simp only [List.map_toArray, List.map_cons, List.map_nil]); first | done | rfl | (simp only [List.length_drop, List.length_take]; rfl)) ?_; (with_reducible refine (money_Add.calls k1 x154000_1 ((rd_T64 l0 x12_1).f0) t156 t157 _ A7.out).mono ?_); rintro e w39 ⟨rfl, hb⟩; refine ⟨_, rfl, ?_⟩; have n0_ := AM (kB (g := gb152) (o := .cells #[.int .i64 x153000_1, .int .i64 x153001_1] 64 (0, 0)) (by (with_reducible repeat (first | refine kD ?_ _ | refine k1_ ?_ | refine kA ?_ _)); refine kF ?_ NB152_155.out _; (with_reducible repeat (first | refine kD ?_ _ | refine k1_ ?_ | refine kA ?_ _)); refine kF ?_ NB152_155.out _; (with_reducible repeat (first | refine kD ?_ _ | refine k1_ ?_ | refine kA ?_ _)); exact BK152.out) hb); have n1_ := AM (kB (g := gb153) (o := .cells #[.int .i64 x154000_1, .int .i64 x154001_1] 64 (0, 0)) (by (with_reducible repeat (first | refine kD ?_ _ | refine k1_ ?_ | refine kA ?_ _)); refine kF ?_ NB153_155.out _; (with_reducible repeat (first | refine kD ?_ _ | refine k1_ ?_ | refine kA ?_ _)); refine kF ?_ NB153_155.out _; (with_reducible repeat (first | refine kD ?_ _ | refine k1_ ?_ | refine kA ?_ _)); exact BK153.out) hb); have n2_ := AM (kB (g := gb155) (o := .cells #[.int .i64 ((rd_T64 l0 x12_1).f0), .int .i64 ((rd_T64 l0 x12_1).f1)] 64 (0, 0)) (by (with_reducible repeat (first | refine kD ?_ _ | refine k1_ ?_ | refine kA ?_ _)); refine kP (cs := #[.int .i64 ((rd_T64 l0 x12_1).f0), .int .i64 0]) ?_ 1 _ rfl; (with_reducible repeat (first | refine kD ?_ _ | refine k1_ ?_ | refine kA ?_ _)); refine kP (cs := #[.int .i64 0, .int .i64 0]) ?_ 0 _ rfl; (with_reducible repeat (first | refine kD ?_ _ | refine k1_ ?_ | refine kA ?_ _)); exact BK155.out) hb); have n3_ := AM (bT bQ hb); clear BK152; clear BK153; clear BK155; clear HB; have BK152 := n0_; have BK153 := n1_; have BK155 := n2_; have HB := n3_; clear n0_ n1_ n2_ n3_; (try clear hb); (try clear hb2); (try clear hk); (try clear hi); obtain ⟨_, _, _, _⟩ := bX2 BK152.out))
        refine bodyPost_ret (results_ct rfl _ _ gb152 64 #[.int .i64 0, .int .i64 0] (0, 0) _ rfl (by (with_reducible repeat (first | refine kD ?_ _ | refine k1_ ?_ | refine kA ?_ _)); refine kP (cs := #[.int .i64 0, .int .i64 x153001_1]) ?_ 1 _ rfl; (with_reducible repeat (first | refine kD ?_ _ | refine k1_ ?_ | refine kA ?_ _)); refine kP (cs := #[.int .i64 x153000_1, .int .i64 x153001_1]) ?_ 0 _ rfl; (with_reducible repeat (first | refine kD ?_ _ | refine k1_ ?_ | refine kA ?_ _)); exact BK152.out) Tryd.underlying64 rfl (by kernel_rfl)) rfl ?_
        exact ⟨by first | rfl | (simp [errW_none, errW_some] <;> rfl) | (simp [*, errW_none, errW_some] <;> rfl), by repeat (first | (with_reducible first | exact HB.out | apply bA | apply bD | apply b1 | refine bS ?_ GE152.out | refine bS ?_ GE153.out | refine bS ?_ GE155.out) | exact HB.out)⟩
      rw [if_pos c8] at H
      have c8b0 : (t157 == 0) = true := beq_iff_eq.mpr c8
      have c8b1 : (t157 != 0) = false := bne_eq_false_iff_eq.mpr c8
      clear c8
      replace H := Option.bind_eq_some_iff.mp H
      obtain ⟨⟨t158, t159⟩, A90, H⟩ := H
      replace H : (if t159 = 0 then (pair_Total.l0 k1 l0 (l0.length : Int) (wrap64 (x12_1 + 1)) t156 t158) else (some (0, 0, t159))) = some (r1, r2, r3) := H
      have A9 := AM A90
      clear A90
      by_cases c10 : t159 = 0
      rotate_left
      · rw [if_neg c10] at H
        have c10b0 : (t159 == 0) = false := beq_eq_false_iff_ne.mpr c10
        have c10b1 : (t159 != 0) = true := bne_iff_ne.mpr c10
        simp only [Option.some.injEq, Prod.mk.injEq] at H
        obtain ⟨rfl, rfl, rfl⟩ := H
        have p154 : 0 ≤ (x12_1 : Int) := of_decide_eq_true (by first | (with_reducible assumption) | assumption)
        have q154 : x12_1 < (l0.length : Int) := of_decide_eq_true (by first | (with_reducible assumption) | assumption)
        obtain ⟨ad154, e154, hx154_0, hx154_1⟩ := at_T64 HR0.out x12_1 p154 q154
        cases e154
        replace hx154_0 := (HB.out.cell (bL w _ hx154_0)).trans hx154_0
        replace hx154_1 := (HB.out.cell (bL w _ hx154_1)).trans hx154_1
        replace p154 := eq_true p154
        replace q154 := eq_true q154
        go_wp2_with (first | ((with_reducible refine gD (N := 6) rfl ?_); refine bE ?hg (N := 6) ?hd (cs := #[.int .i64 0, .int .i64 0]) (t := 64) ?hr ?_; (case hd => rfl); (case hg => rfl); (case hr => first | (go_simp; done) | (go_simp; rfl)); intro gb155 hg w22 hbox hb; have n0_ := AM (kB (g := gb152) (o := .cells #[.int .i64 x153000_1, .int .i64 x153001_1] 64 (0, 0)) (kW BK152) hb); have n1_ := AM (kB (g := gb153) (o := .cells #[.int .i64 x154000_1, .int .i64 x154001_1] 64 (0, 0)) (kW BK153) hb); have n2_ := AM (bT bQ hb); have n3_ := AM (hbox); have n4_ := AM ((by rw [hg]; exact (bZ bQ) : w.heap.size ≤ gb155)); have n5_ := AM ((by rw [hg]; exact (bZ bQ) : w.heap.size ≤ gb155)); have n6_ := AM ((by rw [hg]; exact Nat.ne_of_lt (blk_lt (g := gb152) (o := .cells #[.int .i64 x153000_1, .int .i64 x153001_1] 64 (0, 0)) (kW BK152)) : gb152 ≠ gb155)); have n7_ := AM ((by rw [hg]; exact Nat.ne_of_gt (blk_lt (g := gb152) (o := .cells #[.int .i64 x153000_1, .int .i64 x153001_1] 64 (0, 0)) (kW BK152)) : gb155 ≠ gb152)); have n8_ := AM ((by rw [hg]; exact Nat.ne_of_lt (blk_lt (g := gb153) (o := .cells #[.int .i64 x154000_1, .int .i64 x154001_1] 64 (0, 0)) (kW BK153)) : gb153 ≠ gb155)); have n9_ := AM ((by rw [hg]; exact Nat.ne_of_gt (blk_lt (g := gb153) (o := .cells #[.int .i64 x154000_1, .int .i64 x154001_1] 64 (0, 0)) (kW BK153)) : gb155 ≠ gb153)); clear BK152; clear BK153; clear HB; have BK152 := n0_; have BK153 := n1_; have HB := n2_; have BK155 := n3_; have GW155 := n4_; have GE155 := n5_; have NB152_155 := n6_; have NB155_152 := n7_; have NB153_155 := n8_; have NB155_153 := n9_; clear n0_ n1_ n2_ n3_ n4_ n5_ n6_ n7_ n8_ n9_; clear hb hbox hg; have hnb23 := NB155_152.out; have hnc23 := NB152_155.out; have hnb24 := NB155_153.out; have hnc24 := NB153_155.out; obtain ⟨_, _, _, _⟩ := bX2 BK155.out; have hnb26 := NB153_152.out; have hnc26 := NB152_153.out; obtain ⟨_, _, _, _⟩ := bX2 BK153.out) | ((with_reducible refine gC (f := 36) rfl ?_); refine gL (some 21) rfl rfl Tryd.func36 (by kernel_rfl) rfl #[.int .i64 x154000_1, .int .i64 ((rd_T64 l0 x12_1).f0)] rfl (by (try simp only [List.map_toArray, List.map_cons, List.map_nil]); first | done | rfl | (simp only [List.length_drop, List.length_take]; rfl)) ?_; (with_reducible refine (money_Add.calls k1 x154000_1 ((rd_T64 l0 x12_1).f0) t156 t157 _ A7.out).mono ?_); rintro e w28 ⟨rfl, hb⟩; refine ⟨_, rfl, ?_⟩; have n0_ := AM (kB (g := gb152) (o := .cells #[.int .i64 x153000_1, .int .i64 x153001_1] 64 (0, 0)) (by (with_reducible repeat (first | refine kD ?_ _ | refine k1_ ?_ | refine kA ?_ _)); refine kF ?_ NB152_155.out _; (with_reducible repeat (first | refine kD ?_ _ | refine k1_ ?_ | refine kA ?_ _)); refine kF ?_ NB152_155.out _; (with_reducible repeat (first | refine kD ?_ _ | refine k1_ ?_ | refine kA ?_ _)); exact BK152.out) hb); have n1_ := AM (kB (g := gb153) (o := .cells #[.int .i64 x154000_1, .int .i64 x154001_1] 64 (0, 0)) (by (with_reducible repeat (first | refine kD ?_ _ | refine k1_ ?_ | refine kA ?_ _)); refine kF ?_ NB153_155.out _; (with_reducible repeat (first | refine kD ?_ _ | refine k1_ ?_ | refine kA ?_ _)); refine kF ?_ NB153_155.out _; (with_reducible repeat (first | refine kD ?_ _ | refine k1_ ?_ | refine kA ?_ _)); exact BK153.out) hb); have n2_ := AM (kB (g := gb155) (o := .cells #[.int .i64 ((rd_T64 l0 x12_1).f0), .int .i64 ((rd_T64 l0 x12_1).f1)] 64 (0, 0)) (by (with_reducible repeat (first | refine kD ?_ _ | refine k1_ ?_ | refine kA ?_ _)); refine kP (cs := #[.int .i64 ((rd_T64 l0 x12_1).f0), .int .i64 0]) ?_ 1 _ rfl; (with_reducible repeat (first | refine kD ?_ _ | refine k1_ ?_ | refine kA ?_ _)); refine kP (cs := #[.int .i64 0, .int .i64 0]) ?_ 0 _ rfl; (with_reducible repeat (first | refine kD ?_ _ | refine k1_ ?_ | refine kA ?_ _)); exact BK155.out) hb); have n3_ := AM (bT bQ hb); clear BK152; clear BK153; clear BK155; clear HB; have BK152 := n0_; have BK153 := n1_; have BK155 := n2_; have HB := n3_; clear n0_ n1_ n2_ n3_; (try clear hb); (try clear hb2); (try clear hk); (try clear hi); obtain ⟨_, _, _, _⟩ := bX2 BK153.out; obtain ⟨_, _, _, _⟩ := bX2 BK155.out) | ((with_reducible refine gC (f := 36) rfl ?_); refine gL (some 33) rfl rfl Tryd.func36 (by kernel_rfl) rfl #[.int .i64 x154001_1, .int .i64 ((rd_T64 l0 x12_1).f1)] rfl (by (try simp only [List.map_toArray, List.map_cons, List.map_nil]); first | done | rfl | (simp only [List.length_drop, List.length_take]; rfl)) ?_; (with_reducible refine (money_Add.calls k1 x154001_1 ((rd_T64 l0 x12_1).f1) t158 t159 _ A9.out).mono ?_); rintro e w31 ⟨rfl, hb⟩; refine ⟨_, rfl, ?_⟩; have n0_ := AM (kB (g := gb152) (o := .cells #[.int .i64 x153000_1, .int .i64 x153001_1] 64 (0, 0)) (kW BK152) hb); have n1_ := AM (kB (g := gb153) (o := .cells #[.int .i64 x154000_1, .int .i64 x154001_1] 64 (0, 0)) (kW BK153) hb); have n2_ := AM (kB (g := gb155) (o := .cells #[.int .i64 ((rd_T64 l0 x12_1).f0), .int .i64 ((rd_T64 l0 x12_1).f1)] 64 (0, 0)) (kW BK155) hb); have n3_ := AM (bT bQ hb); clear BK152; clear BK153; clear BK155; clear HB; have BK152 := n0_; have BK153 := n1_; have BK155 := n2_; have HB := n3_; clear n0_ n1_ n2_ n3_; (try clear hb); (try clear hb2); (try clear hk); (try clear hi); obtain ⟨_, _, _, _⟩ := bX2 BK152.out))
        refine bodyPost_ret (results_ct rfl _ _ gb152 64 #[.int .i64 0, .int .i64 0] (0, 0) _ rfl (by (with_reducible repeat (first | refine kD ?_ _ | refine k1_ ?_ | refine kA ?_ _)); refine kP (cs := #[.int .i64 0, .int .i64 x153001_1]) ?_ 1 _ rfl; (with_reducible repeat (first | refine kD ?_ _ | refine k1_ ?_ | refine kA ?_ _)); refine kP (cs := #[.int .i64 x153000_1, .int .i64 x153001_1]) ?_ 0 _ rfl; (with_reducible repeat (first | refine kD ?_ _ | refine k1_ ?_ | refine kA ?_ _)); exact BK152.out) Tryd.underlying64 rfl (by kernel_rfl)) rfl ?_
        exact ⟨by first | rfl | (simp [errW_none, errW_some] <;> rfl) | (simp [*, errW_none, errW_some] <;> rfl), by repeat (first | (with_reducible first | exact HB.out | apply bA | apply bD | apply b1 | refine bS ?_ GE152.out | refine bS ?_ GE153.out | refine bS ?_ GE155.out) | exact HB.out)⟩
      rw [if_pos c10] at H
      have c10b0 : (t159 == 0) = true := beq_iff_eq.mpr c10
      have c10b1 : (t159 != 0) = false := bne_eq_false_iff_eq.mpr c10
      clear c10
      have H' := AM H
      clear H
      have p154 : 0 ≤ (x12_1 : Int) := of_decide_eq_true (by first | (with_reducible assumption) | assumption)
      have q154 : x12_1 < (l0.length : Int) := of_decide_eq_true (by first | (with_reducible assumption) | assumption)
      obtain ⟨ad154, e154, hx154_0, hx154_1⟩ := at_T64 HR0.out x12_1 p154 q154
      cases e154
      replace hx154_0 := (HB.out.cell (bL w _ hx154_0)).trans hx154_0
      replace hx154_1 := (HB.out.cell (bL w _ hx154_1)).trans hx154_1
      replace p154 := eq_true p154
      replace q154 := eq_true q154
      go_wp2_with (first | ((with_reducible refine gD (N := 6) rfl ?_); refine bE ?hg (N := 6) ?hd (cs := #[.int .i64 0, .int .i64 0]) (t := 64) ?hr ?_; (case hd => rfl); (case hg => rfl); (case hr => first | (go_simp; done) | (go_simp; rfl)); intro gb155 hg w11 hbox hb; have n0_ := AM (kB (g := gb152) (o := .cells #[.int .i64 x153000_1, .int .i64 x153001_1] 64 (0, 0)) (kW BK152) hb); have n1_ := AM (kB (g := gb153) (o := .cells #[.int .i64 x154000_1, .int .i64 x154001_1] 64 (0, 0)) (kW BK153) hb); have n2_ := AM (bT bQ hb); have n3_ := AM (hbox); have n4_ := AM ((by rw [hg]; exact (bZ bQ) : w.heap.size ≤ gb155)); have n5_ := AM ((by rw [hg]; exact (bZ bQ) : w.heap.size ≤ gb155)); have n6_ := AM ((by rw [hg]; exact Nat.ne_of_lt (blk_lt (g := gb152) (o := .cells #[.int .i64 x153000_1, .int .i64 x153001_1] 64 (0, 0)) (kW BK152)) : gb152 ≠ gb155)); have n7_ := AM ((by rw [hg]; exact Nat.ne_of_gt (blk_lt (g := gb152) (o := .cells #[.int .i64 x153000_1, .int .i64 x153001_1] 64 (0, 0)) (kW BK152)) : gb155 ≠ gb152)); have n8_ := AM ((by rw [hg]; exact Nat.ne_of_lt (blk_lt (g := gb153) (o := .cells #[.int .i64 x154000_1, .int .i64 x154001_1] 64 (0, 0)) (kW BK153)) : gb153 ≠ gb155)); have n9_ := AM ((by rw [hg]; exact Nat.ne_of_gt (blk_lt (g := gb153) (o := .cells #[.int .i64 x154000_1, .int .i64 x154001_1] 64 (0, 0)) (kW BK153)) : gb155 ≠ gb153)); clear BK152; clear BK153; clear HB; have BK152 := n0_; have BK153 := n1_; have HB := n2_; have BK155 := n3_; have GW155 := n4_; have GE155 := n5_; have NB152_155 := n6_; have NB155_152 := n7_; have NB153_155 := n8_; have NB155_153 := n9_; clear n0_ n1_ n2_ n3_ n4_ n5_ n6_ n7_ n8_ n9_; clear hb hbox hg; have hnb12 := NB155_152.out; have hnc12 := NB152_155.out; have hnb13 := NB155_153.out; have hnc13 := NB153_155.out; obtain ⟨_, _, _, _⟩ := bX2 BK155.out; have hnb15 := NB153_152.out; have hnc15 := NB152_153.out; obtain ⟨_, _, _, _⟩ := bX2 BK153.out) | ((with_reducible refine gC (f := 36) rfl ?_); refine gL (some 21) rfl rfl Tryd.func36 (by kernel_rfl) rfl #[.int .i64 x154000_1, .int .i64 ((rd_T64 l0 x12_1).f0)] rfl (by (try simp only [List.map_toArray, List.map_cons, List.map_nil]); first | done | rfl | (simp only [List.length_drop, List.length_take]; rfl)) ?_; (with_reducible refine (money_Add.calls k1 x154000_1 ((rd_T64 l0 x12_1).f0) t156 t157 _ A7.out).mono ?_); rintro e w17 ⟨rfl, hb⟩; refine ⟨_, rfl, ?_⟩; have n0_ := AM (kB (g := gb152) (o := .cells #[.int .i64 x153000_1, .int .i64 x153001_1] 64 (0, 0)) (by (with_reducible repeat (first | refine kD ?_ _ | refine k1_ ?_ | refine kA ?_ _)); refine kF ?_ NB152_155.out _; (with_reducible repeat (first | refine kD ?_ _ | refine k1_ ?_ | refine kA ?_ _)); refine kF ?_ NB152_155.out _; (with_reducible repeat (first | refine kD ?_ _ | refine k1_ ?_ | refine kA ?_ _)); exact BK152.out) hb); have n1_ := AM (kB (g := gb153) (o := .cells #[.int .i64 x154000_1, .int .i64 x154001_1] 64 (0, 0)) (by (with_reducible repeat (first | refine kD ?_ _ | refine k1_ ?_ | refine kA ?_ _)); refine kF ?_ NB153_155.out _; (with_reducible repeat (first | refine kD ?_ _ | refine k1_ ?_ | refine kA ?_ _)); refine kF ?_ NB153_155.out _; (with_reducible repeat (first | refine kD ?_ _ | refine k1_ ?_ | refine kA ?_ _)); exact BK153.out) hb); have n2_ := AM (kB (g := gb155) (o := .cells #[.int .i64 ((rd_T64 l0 x12_1).f0), .int .i64 ((rd_T64 l0 x12_1).f1)] 64 (0, 0)) (by (with_reducible repeat (first | refine kD ?_ _ | refine k1_ ?_ | refine kA ?_ _)); refine kP (cs := #[.int .i64 ((rd_T64 l0 x12_1).f0), .int .i64 0]) ?_ 1 _ rfl; (with_reducible repeat (first | refine kD ?_ _ | refine k1_ ?_ | refine kA ?_ _)); refine kP (cs := #[.int .i64 0, .int .i64 0]) ?_ 0 _ rfl; (with_reducible repeat (first | refine kD ?_ _ | refine k1_ ?_ | refine kA ?_ _)); exact BK155.out) hb); have n3_ := AM (bT bQ hb); clear BK152; clear BK153; clear BK155; clear HB; have BK152 := n0_; have BK153 := n1_; have BK155 := n2_; have HB := n3_; clear n0_ n1_ n2_ n3_; (try clear hb); (try clear hb2); (try clear hk); (try clear hi); obtain ⟨_, _, _, _⟩ := bX2 BK153.out; obtain ⟨_, _, _, _⟩ := bX2 BK155.out) | ((with_reducible refine gC (f := 36) rfl ?_); refine gL (some 33) rfl rfl Tryd.func36 (by kernel_rfl) rfl #[.int .i64 x154001_1, .int .i64 ((rd_T64 l0 x12_1).f1)] rfl (by (try simp only [List.map_toArray, List.map_cons, List.map_nil]); first | done | rfl | (simp only [List.length_drop, List.length_take]; rfl)) ?_; (with_reducible refine (money_Add.calls k1 x154001_1 ((rd_T64 l0 x12_1).f1) t158 t159 _ A9.out).mono ?_); rintro e w20 ⟨rfl, hb⟩; refine ⟨_, rfl, ?_⟩; have n0_ := AM (kB (g := gb152) (o := .cells #[.int .i64 x153000_1, .int .i64 x153001_1] 64 (0, 0)) (kW BK152) hb); have n1_ := AM (kB (g := gb153) (o := .cells #[.int .i64 x154000_1, .int .i64 x154001_1] 64 (0, 0)) (kW BK153) hb); have n2_ := AM (kB (g := gb155) (o := .cells #[.int .i64 ((rd_T64 l0 x12_1).f0), .int .i64 ((rd_T64 l0 x12_1).f1)] 64 (0, 0)) (kW BK155) hb); have n3_ := AM (bT bQ hb); clear BK152; clear BK153; clear BK155; clear HB; have BK152 := n0_; have BK153 := n1_; have BK155 := n2_; have HB := n3_; clear n0_ n1_ n2_ n3_; (try clear hb); (try clear hb2); (try clear hk); (try clear hi); obtain ⟨_, _, _, _⟩ := bX2 BK153.out))
      go_roundg k1
      case measure => have := HK1.out; omega
      case rel => exact ⟨(wrap64 (x12_1 + 1)), (x153000_1), (x153001_1), (t156), (t158), (by first | rfl | (simp; done) | (simp [*]; done)), H', ⟨by have := HK1.out; omega⟩, ⟨by (with_reducible repeat (first | refine kD ?_ _ | refine k1_ ?_ | refine kA ?_ _)); refine kF ?_ NB152_153.out _; (with_reducible repeat (first | refine kD ?_ _ | refine k1_ ?_ | refine kA ?_ _)); refine kF ?_ NB152_153.out _; (with_reducible repeat (first | refine kD ?_ _ | refine k1_ ?_ | refine kA ?_ _)); exact BK152.out⟩, ⟨by (with_reducible repeat (first | refine kD ?_ _ | refine k1_ ?_ | refine kA ?_ _)); refine kP (cs := #[.int .i64 t156, .int .i64 x154001_1]) ?_ 1 _ rfl; (with_reducible repeat (first | refine kD ?_ _ | refine k1_ ?_ | refine kA ?_ _)); refine kP (cs := #[.int .i64 x154000_1, .int .i64 x154001_1]) ?_ 0 _ rfl; (with_reducible repeat (first | refine kD ?_ _ | refine k1_ ?_ | refine kA ?_ _)); exact BK153.out⟩, ⟨by repeat (first | (with_reducible first | exact HB.out | apply bA | apply bD | apply b1 | refine bS ?_ GE152.out | refine bS ?_ GE153.out | refine bS ?_ GE155.out) | exact HB.out)⟩⟩
/-! ### share_Sides: function 53 -/
def share_Sides.f (k : Nat) (l0 : List (S64)) : Option (Int × Int × Int) := (pair_Total.f k l0).bind fun bt161 => (some (bt161.1, bt161.2.1, bt161.2.2))
set_option maxHeartbeats 8000000 in
set_option maxRecDepth 100000 in
theorem share_Sides.calls (k : Nat) (A0 : Option Addr) (c0 : Nat) (l0 : List (S64)) (r1 : Int) (r2 : Int) (r3 : Int) (w : World) (hr0 : Kd.C k64 w A0 l0.length l0) (hc0 : l0.length ≤ c0) (h : share_Sides.f k l0 = some (r1, r2, r3)) :
    Calls Tryd.prog 53 #[.slice A0 l0.length c0] w fun e w' => e = .returned (.tuple #[.agg #[.int .i64 r1, .int .i64 r2], .int .i64 r3]) ∧ Below w.heap.size w w' := by
  have hu64 := Tryd.underlying64
  have HR0 := AM hr0
  have HC0 := AM hc0
  clear hr0 hc0
  have HB := AM (Below.refl w.heap.size w)
  have H : ((pair_Total.f k l0).bind fun bt161 => (some (bt161.1, bt161.2.1, bt161.2.2))) = some (r1, r2, r3) := h
  clear h
  replace H := Option.bind_eq_some_iff.mp H
  obtain ⟨⟨t161, t162, t163⟩, A20, H⟩ := H
  replace H : (some (t161, t162, t163)) = some (r1, r2, r3) := H
  have A2 := AM A20
  clear A20
  simp only [Option.some.injEq, Prod.mk.injEq] at H
  obtain ⟨rfl, rfl, rfl⟩ := H
  go_enter Tryd.func53, Tryd.ntmps53
  go_wp2_with (first | ((with_reducible refine gD (N := 2) rfl ?_); refine bE ?hg (N := 2) ?hd (cs := #[.int .i64 0, .int .i64 0]) (t := 64) ?hr ?_; (case hd => rfl); (case hg => rfl); (case hr => first | (go_simp; done) | (go_simp; rfl)); intro gb160 hg w3 hbox hb; have n0_ := AM (bT bQ hb); have n1_ := AM (hbox); have n2_ := AM ((by rw [hg]; exact (bZ bQ) : w.heap.size ≤ gb160)); have n3_ := AM ((by rw [hg]; exact (bZ bQ) : w.heap.size ≤ gb160)); clear HB; have HB := n0_; have BK160 := n1_; have GW160 := n2_; have GE160 := n3_; clear n0_ n1_ n2_ n3_; clear hb hbox hg) | ((with_reducible refine gC (f := 81) rfl ?_); refine gL (some 5) rfl rfl Tryd.func81 (by kernel_rfl) rfl #[.slice A0 l0.length c0] rfl (by (try simp only [List.map_toArray, List.map_cons, List.map_nil]); first | done | rfl | (simp only [List.length_drop, List.length_take]; rfl)) ?_; (with_reducible refine (pair_Total.calls k _ _ l0 t161 t162 t163 _ ?side1 ?side2 A2.out).mono ?_); (case side1 => exact cQ HR0 HB); (case side2 => exact HC0.out); rintro e w4 ⟨rfl, hb⟩; refine ⟨_, rfl, ?_⟩; have n0_ := AM (kB (g := gb160) (o := .cells #[.int .i64 0, .int .i64 0] 64 (0, 0)) (kW BK160) hb); have n1_ := AM (bT bQ hb); clear BK160; clear HB; have BK160 := n0_; have HB := n1_; clear n0_ n1_; (try clear hb); (try clear hb2); (try clear hk); (try clear hi); obtain ⟨_, _, _, _⟩ := bX2 BK160.out))
  refine bodyPost_ret (results_ct rfl _ _ gb160 64 #[.int .i64 t161, .int .i64 t162] (0, 0) _ rfl (by (with_reducible repeat (first | refine kD ?_ _ | refine k1_ ?_ | refine kA ?_ _)); refine kP (cs := #[.int .i64 t161, .int .i64 0]) ?_ 1 _ rfl; (with_reducible repeat (first | refine kD ?_ _ | refine k1_ ?_ | refine kA ?_ _)); refine kP (cs := #[.int .i64 0, .int .i64 0]) ?_ 0 _ rfl; (with_reducible repeat (first | refine kD ?_ _ | refine k1_ ?_ | refine kA ?_ _)); exact BK160.out) Tryd.underlying64 rfl (by kernel_rfl)) rfl ?_
  exact ⟨by first | rfl | (simp [errW_none, errW_some] <;> rfl) | (simp [*, errW_none, errW_some] <;> rfl), by repeat (first | (with_reducible first | exact HB.out | apply bA | apply bD | apply b1 | refine bS ?_ GE160.out) | exact HB.out)⟩

/-! ### attach_Sum: function 54 -/
def attach_Sum.l0 : Nat → Int → List (S70) → Int → Int → Option (Int × Int)
  | 0, _, _, _, _ => none
  | k + 1, x4, x9, x10, x11 => if x11 < x10 then (if 0 ≤ x11 then (if x11 < (x9.length : Int) then ((money_Add.f k x4 ((rd_T70 x9 x11).f4)).bind fun bt166 => (if bt166.2 = 0 then (attach_Sum.l0 k bt166.1 x9 x10 (wrap64 (x11 + 1))) else (some (0, bt166.2)))) else (none)) else (none)) else (some (x4, 0))
def attach_Sum.f (k : Nat) (l0 : List (S70)) : Option (Int × Int) := attach_Sum.l0 k 0 l0 (l0.length : Int) 0
set_option maxHeartbeats 8000000 in
set_option maxRecDepth 100000 in
theorem attach_Sum.calls (k : Nat) (A0 : Option Addr) (c0 : Nat) (l0 : List (S70)) (r1 : Int) (r2 : Int) (w : World) (hr0 : Kd.C k70 w A0 l0.length l0) (hc0 : l0.length ≤ c0) (h : attach_Sum.f k l0 = some (r1, r2)) :
    Calls Tryd.prog 54 #[.slice A0 l0.length c0] w fun e w' => e = .returned (.tuple #[.int .i64 r1, .int .i64 r2]) ∧ Below w.heap.size w w' := by
  have hu70 := Tryd.underlying70
  have HR0 := AM hr0
  have HC0 := AM hc0
  clear hr0 hc0
  have HB := AM (Below.refl w.heap.size w)
  have H : (attach_Sum.l0 k 0 l0 (l0.length : Int) 0) = some (r1, r2) := h
  clear h
  have H' := AM H
  clear H
  go_enter Tryd.func54, Tryd.ntmps54
  go_wp2
  go_loopg [4, 11] k (fun kq v4 v11 w' => ∃ (x4_1 : Int) (x11_1 : Int), v4 = .int .i64 x4_1 ∧ v11 = .int .i64 x11_1 ∧ Aside0 (attach_Sum.l0 kq x4_1 l0 (l0.length : Int) x11_1 = some (r1, r2)) ∧ Aside0 (kq ≤ k) ∧ Aside0 (Below w.heap.size w w'))
  case atStart => exact ⟨(0), (0), (by first | rfl | (simp; done) | (simp [*]; done)), (by first | rfl | (simp; done) | (simp [*]; done)), H', ⟨Nat.le_refl _⟩, ⟨by repeat (first | (with_reducible first | exact HB.out | apply bA | apply bD | apply b1) | exact HB.out)⟩⟩
  case round =>
    clear H'
    obtain ⟨x4_1, x11_1, rfl, rfl, HA, HK1, HB⟩ := hrel
    cases gk with
    | zero => exact absurd HA.out (by simp [attach_Sum.l0])
    | succ k1 =>
      have H := HA.out
      clear HA
      simp only [attach_Sum.l0] at H
      by_cases c2 : x11_1 < (l0.length : Int)
      rotate_left
      · rw [if_neg c2] at H
        have c2b0 := decide_eq_false c2
        clear c2
        simp only [Option.some.injEq, Prod.mk.injEq] at H
        obtain ⟨rfl, rfl⟩ := H
        go_wp2
        go_ret2
        exact ⟨by first | rfl | (simp [errW_none, errW_some] <;> rfl) | (simp [*, errW_none, errW_some] <;> rfl), by repeat (first | (with_reducible first | exact HB.out | apply bA | apply bD | apply b1) | exact HB.out)⟩


      rw [if_pos c2] at H
      have c2b0 := decide_eq_true c2
      clear c2
      by_cases c3 : 0 ≤ x11_1
      rotate_left
      · rw [if_neg c3] at H
        exact absurd H (by simp)
      rw [if_pos c3] at H
      have c3b0 := decide_eq_true c3
      clear c3
      by_cases c4 : x11_1 < (l0.length : Int)
      rotate_left
      · rw [if_neg c4] at H
        exact absurd H (by simp)
      rw [if_pos c4] at H
      have c4b0 := decide_eq_true c4
      clear c4
      replace H := Option.bind_eq_some_iff.mp H
      obtain ⟨⟨t166, t167⟩, A50, H⟩ := H
      replace H : (if t167 = 0 then (attach_Sum.l0 k1 t166 l0 (l0.length : Int) (wrap64 (x11_1 + 1))) else (some (0, t167))) = some (r1, r2) := H
      have A5 := AM A50
      clear A50
      by_cases c6 : t167 = 0
      rotate_left
      · rw [if_neg c6] at H
        have c6b0 : (t167 == 0) = false := beq_eq_false_iff_ne.mpr c6
        have c6b1 : (t167 != 0) = true := bne_iff_ne.mpr c6
        simp only [Option.some.injEq, Prod.mk.injEq] at H
        obtain ⟨rfl, rfl⟩ := H
        have p164 : 0 ≤ (x11_1 : Int) := of_decide_eq_true (by first | (with_reducible assumption) | assumption)
        have q164 : x11_1 < (l0.length : Int) := of_decide_eq_true (by first | (with_reducible assumption) | assumption)
        obtain ⟨ad164, e164, hx164_0, hx164_1, hx164_2, hx164_3, hx164_4, hx164_5⟩ := at_T70 HR0.out x11_1 p164 q164
        cases e164
        replace hx164_0 := (HB.out.cell (bL w _ hx164_0)).trans hx164_0
        replace hx164_1 := (HB.out.cell (bL w _ hx164_1)).trans hx164_1
        replace hx164_2 := (HB.out.cell (bL w _ hx164_2)).trans hx164_2
        replace hx164_3 := (HB.out.cell (bL w _ hx164_3)).trans hx164_3
        replace hx164_4 := (HB.out.cell (bL w _ hx164_4)).trans hx164_4
        replace hx164_5 := (HB.out.cell (bL w _ hx164_5)).trans hx164_5
        replace p164 := eq_true p164
        replace q164 := eq_true q164
        go_wp2_with (first | ((with_reducible refine gD (N := 6) rfl ?_); refine bE ?hg (N := 6) ?hd (cs := #[.int .i64 0, .int .i64 0, .int .i64 0, .int .i64 0, .int .i64 0, .int .i64 0]) (t := 70) ?hr ?_; (case hd => rfl); (case hg => rfl); (case hr => first | (go_simp; done) | (go_simp; rfl)); intro gb165 hg w10 hbox hb; have n0_ := AM (bT bQ hb); have n1_ := AM (hbox); have n2_ := AM ((by rw [hg]; exact (bZ bQ) : w.heap.size ≤ gb165)); have n3_ := AM ((by rw [hg]; exact (bZ bQ) : w.heap.size ≤ gb165)); clear HB; have HB := n0_; have BK165 := n1_; have GW165 := n2_; have GE165 := n3_; clear n0_ n1_ n2_ n3_; clear hb hbox hg; obtain ⟨_, _, _, _, _, _, _, _, _, _, _, _⟩ := bX6 BK165.out) | ((with_reducible refine gC (f := 36) rfl ?_); refine gL (some 19) rfl rfl Tryd.func36 (by kernel_rfl) rfl #[.int .i64 x4_1, .int .i64 ((rd_T70 l0 x11_1).f4)] rfl (by (try simp only [List.map_toArray, List.map_cons, List.map_nil]); first | done | rfl | (simp only [List.length_drop, List.length_take]; rfl)) ?_; (with_reducible refine (money_Add.calls k1 x4_1 ((rd_T70 l0 x11_1).f4) t166 t167 _ A5.out).mono ?_); rintro e w12 ⟨rfl, hb⟩; refine ⟨_, rfl, ?_⟩; have n0_ := AM (kB (g := gb165) (o := .cells #[.int .i64 ((rd_T70 l0 x11_1).f0), .int .i64 ((rd_T70 l0 x11_1).f1), .int .i64 ((rd_T70 l0 x11_1).f2), .int .i64 ((rd_T70 l0 x11_1).f3), .int .i64 ((rd_T70 l0 x11_1).f4), .int .i64 ((rd_T70 l0 x11_1).f5)] 70 (0, 0)) (by (with_reducible repeat (first | refine kD ?_ _ | refine k1_ ?_ | refine kA ?_ _)); refine kP (cs := #[.int .i64 ((rd_T70 l0 x11_1).f0), .int .i64 ((rd_T70 l0 x11_1).f1), .int .i64 ((rd_T70 l0 x11_1).f2), .int .i64 ((rd_T70 l0 x11_1).f3), .int .i64 ((rd_T70 l0 x11_1).f4), .int .i64 0]) ?_ 5 _ rfl; (with_reducible repeat (first | refine kD ?_ _ | refine k1_ ?_ | refine kA ?_ _)); refine kP (cs := #[.int .i64 ((rd_T70 l0 x11_1).f0), .int .i64 ((rd_T70 l0 x11_1).f1), .int .i64 ((rd_T70 l0 x11_1).f2), .int .i64 ((rd_T70 l0 x11_1).f3), .int .i64 0, .int .i64 0]) ?_ 4 _ rfl; (with_reducible repeat (first | refine kD ?_ _ | refine k1_ ?_ | refine kA ?_ _)); refine kP (cs := #[.int .i64 ((rd_T70 l0 x11_1).f0), .int .i64 ((rd_T70 l0 x11_1).f1), .int .i64 ((rd_T70 l0 x11_1).f2), .int .i64 0, .int .i64 0, .int .i64 0]) ?_ 3 _ rfl; (with_reducible repeat (first | refine kD ?_ _ | refine k1_ ?_ | refine kA ?_ _)); refine kP (cs := #[.int .i64 ((rd_T70 l0 x11_1).f0), .int .i64 ((rd_T70 l0 x11_1).f1), .int .i64 0, .int .i64 0, .int .i64 0, .int .i64 0]) ?_ 2 _ rfl; (with_reducible repeat (first | refine kD ?_ _ | refine k1_ ?_ | refine kA ?_ _)); refine kP (cs := #[.int .i64 ((rd_T70 l0 x11_1).f0), .int .i64 0, .int .i64 0, .int .i64 0, .int .i64 0, .int .i64 0]) ?_ 1 _ rfl; (with_reducible repeat (first | refine kD ?_ _ | refine k1_ ?_ | refine kA ?_ _)); refine kP (cs := #[.int .i64 0, .int .i64 0, .int .i64 0, .int .i64 0, .int .i64 0, .int .i64 0]) ?_ 0 _ rfl; (with_reducible repeat (first | refine kD ?_ _ | refine k1_ ?_ | refine kA ?_ _)); exact BK165.out) hb); have n1_ := AM (bT bQ hb); clear BK165; clear HB; have BK165 := n0_; have HB := n1_; clear n0_ n1_; (try clear hb); (try clear hb2); (try clear hk); (try clear hi)))
        go_ret2
        exact ⟨by first | rfl | (simp [errW_none, errW_some] <;> rfl) | (simp [*, errW_none, errW_some] <;> rfl), by repeat (first | (with_reducible first | exact HB.out | apply bA | apply bD | apply b1 | refine bS ?_ GE165.out) | exact HB.out)⟩
      rw [if_pos c6] at H
      have c6b0 : (t167 == 0) = true := beq_iff_eq.mpr c6
      have c6b1 : (t167 != 0) = false := bne_eq_false_iff_eq.mpr c6
      clear c6
      have H' := AM H
      clear H
      have p164 : 0 ≤ (x11_1 : Int) := of_decide_eq_true (by first | (with_reducible assumption) | assumption)
      have q164 : x11_1 < (l0.length : Int) := of_decide_eq_true (by first | (with_reducible assumption) | assumption)
      obtain ⟨ad164, e164, hx164_0, hx164_1, hx164_2, hx164_3, hx164_4, hx164_5⟩ := at_T70 HR0.out x11_1 p164 q164
      cases e164
      replace hx164_0 := (HB.out.cell (bL w _ hx164_0)).trans hx164_0
      replace hx164_1 := (HB.out.cell (bL w _ hx164_1)).trans hx164_1
      replace hx164_2 := (HB.out.cell (bL w _ hx164_2)).trans hx164_2
      replace hx164_3 := (HB.out.cell (bL w _ hx164_3)).trans hx164_3
      replace hx164_4 := (HB.out.cell (bL w _ hx164_4)).trans hx164_4
      replace hx164_5 := (HB.out.cell (bL w _ hx164_5)).trans hx164_5
      replace p164 := eq_true p164
      replace q164 := eq_true q164
      go_wp2_with (first | ((with_reducible refine gD (N := 6) rfl ?_); refine bE ?hg (N := 6) ?hd (cs := #[.int .i64 0, .int .i64 0, .int .i64 0, .int .i64 0, .int .i64 0, .int .i64 0]) (t := 70) ?hr ?_; (case hd => rfl); (case hg => rfl); (case hr => first | (go_simp; done) | (go_simp; rfl)); intro gb165 hg w7 hbox hb; have n0_ := AM (bT bQ hb); have n1_ := AM (hbox); have n2_ := AM ((by rw [hg]; exact (bZ bQ) : w.heap.size ≤ gb165)); have n3_ := AM ((by rw [hg]; exact (bZ bQ) : w.heap.size ≤ gb165)); clear HB; have HB := n0_; have BK165 := n1_; have GW165 := n2_; have GE165 := n3_; clear n0_ n1_ n2_ n3_; clear hb hbox hg; obtain ⟨_, _, _, _, _, _, _, _, _, _, _, _⟩ := bX6 BK165.out) | ((with_reducible refine gC (f := 36) rfl ?_); refine gL (some 19) rfl rfl Tryd.func36 (by kernel_rfl) rfl #[.int .i64 x4_1, .int .i64 ((rd_T70 l0 x11_1).f4)] rfl (by (try simp only [List.map_toArray, List.map_cons, List.map_nil]); first | done | rfl | (simp only [List.length_drop, List.length_take]; rfl)) ?_; (with_reducible refine (money_Add.calls k1 x4_1 ((rd_T70 l0 x11_1).f4) t166 t167 _ A5.out).mono ?_); rintro e w9 ⟨rfl, hb⟩; refine ⟨_, rfl, ?_⟩; have n0_ := AM (kB (g := gb165) (o := .cells #[.int .i64 ((rd_T70 l0 x11_1).f0), .int .i64 ((rd_T70 l0 x11_1).f1), .int .i64 ((rd_T70 l0 x11_1).f2), .int .i64 ((rd_T70 l0 x11_1).f3), .int .i64 ((rd_T70 l0 x11_1).f4), .int .i64 ((rd_T70 l0 x11_1).f5)] 70 (0, 0)) (by (with_reducible repeat (first | refine kD ?_ _ | refine k1_ ?_ | refine kA ?_ _)); refine kP (cs := #[.int .i64 ((rd_T70 l0 x11_1).f0), .int .i64 ((rd_T70 l0 x11_1).f1), .int .i64 ((rd_T70 l0 x11_1).f2), .int .i64 ((rd_T70 l0 x11_1).f3), .int .i64 ((rd_T70 l0 x11_1).f4), .int .i64 0]) ?_ 5 _ rfl; (with_reducible repeat (first | refine kD ?_ _ | refine k1_ ?_ | refine kA ?_ _)); refine kP (cs := #[.int .i64 ((rd_T70 l0 x11_1).f0), .int .i64 ((rd_T70 l0 x11_1).f1), .int .i64 ((rd_T70 l0 x11_1).f2), .int .i64 ((rd_T70 l0 x11_1).f3), .int .i64 0, .int .i64 0]) ?_ 4 _ rfl; (with_reducible repeat (first | refine kD ?_ _ | refine k1_ ?_ | refine kA ?_ _)); refine kP (cs := #[.int .i64 ((rd_T70 l0 x11_1).f0), .int .i64 ((rd_T70 l0 x11_1).f1), .int .i64 ((rd_T70 l0 x11_1).f2), .int .i64 0, .int .i64 0, .int .i64 0]) ?_ 3 _ rfl; (with_reducible repeat (first | refine kD ?_ _ | refine k1_ ?_ | refine kA ?_ _)); refine kP (cs := #[.int .i64 ((rd_T70 l0 x11_1).f0), .int .i64 ((rd_T70 l0 x11_1).f1), .int .i64 0, .int .i64 0, .int .i64 0, .int .i64 0]) ?_ 2 _ rfl; (with_reducible repeat (first | refine kD ?_ _ | refine k1_ ?_ | refine kA ?_ _)); refine kP (cs := #[.int .i64 ((rd_T70 l0 x11_1).f0), .int .i64 0, .int .i64 0, .int .i64 0, .int .i64 0, .int .i64 0]) ?_ 1 _ rfl; (with_reducible repeat (first | refine kD ?_ _ | refine k1_ ?_ | refine kA ?_ _)); refine kP (cs := #[.int .i64 0, .int .i64 0, .int .i64 0, .int .i64 0, .int .i64 0, .int .i64 0]) ?_ 0 _ rfl; (with_reducible repeat (first | refine kD ?_ _ | refine k1_ ?_ | refine kA ?_ _)); exact BK165.out) hb); have n1_ := AM (bT bQ hb); clear BK165; clear HB; have BK165 := n0_; have HB := n1_; clear n0_ n1_; (try clear hb); (try clear hb2); (try clear hk); (try clear hi)))
      go_roundg k1
      case measure => have := HK1.out; omega
      case rel => exact ⟨(t166), (wrap64 (x11_1 + 1)), (by first | rfl | (simp; done) | (simp [*]; done)), (by first | rfl | (simp; done) | (simp [*]; done)), H', ⟨by have := HK1.out; omega⟩, ⟨by repeat (first | (with_reducible first | exact HB.out | apply bA | apply bD | apply b1 | refine bS ?_ GE165.out) | exact HB.out)⟩⟩
end Go.Proofs.YtjljhianehhlgaaDoor.K
