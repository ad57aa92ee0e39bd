-- by a program of this session, over the kit's printer
import Derived.Test.YtdllkibfikcfbaaDoorKx0
import Derived.Test.YtdllkibfikcfbaaDoorKx6
import Derived.Test.YtdllkibfikcfbaaDoorKx7
namespace Go.Proofs.YtdllkibfikcfbaaDoor.K
open Go.RowKit Go.Proofs.YtdllkibfikcfbaaDoorW.PrintWords Go.Proofs.YtdllkibfikcfbaaDoorW.PrintLast Go.Proofs.YtdllkibfikcfbaaDoorW.PrintMore
attribute [local go_sem] max2_int min2_int max_two min_two max_three min_three max_four min_four   -- for this text's walks alone
set_option linter.unusedVariables false
set_option linter.unusedSimpArgs false

/-! ### keep_Worst: function 11 -/
mutual
def keep_Worst.l0 : Nat → List (S43) → Int → Int → Int → Int → List Int → Int → Option (Int × Int × List Int × Int × Int)
  | 0, _, _, _, _, _, _, _ => none
  | k + 1, x32, x33, x34, x161000, x161001, x161002, x161003 => if x34 < x33 then (if 0 ≤ x34 then (if x34 < (x32.length : Int) then (keep_Worst.l1 k 0 x32 x33 x34 ((rd_T43 x32 x34).f2) (((rd_T43 x32 x34).f2).length : Int) 0 x161000 x161001 x161002 x161003 ((rd_T43 x32 x34).f0) ((rd_T43 x32 x34).f1) ((rd_T43 x32 x34).f2) ((rd_T43 x32 x34).f3) ((rd_T43 x32 x34).f4) ((rd_T43 x32 x34).f5)) else (none)) else (none)) else (some (x161000, x161001, x161002, x161003, 0))
def keep_Worst.l1 : Nat → Int → List (S43) → Int → Int → List (S41) → Int → Int → Int → Int → List Int → Int → ByteArray → Int → List (S41) → Int → Int → Int → Option (Int × Int × List Int × Int × Int)
  | 0, _, _, _, _, _, _, _, _, _, _, _, _, _, _, _, _, _ => none
  | k + 1, x11, x32, x33, x34, x39, x40, x41, x161000, x161001, x161002, x161003, x163000, x163001, x163002, x163003, x163004, x163005 => if x41 < x40 then (if 0 ≤ x41 then (if x41 < (x39.length : Int) then (if 0 ≤ x11 then (if x11 < (x163002.length : Int) then (if ((rd_T41 x39 x41).f1) > ((rd_T41 x163002 x11).f1) then (keep_Worst.l1 k x41 x32 x33 x34 x39 x40 (wrap64 (x41 + 1)) x161000 x161001 x161002 x161003 x163000 x163001 x163002 x163003 x163004 x163005) else (keep_Worst.l1 k x11 x32 x33 x34 x39 x40 (wrap64 (x41 + 1)) x161000 x161001 x161002 x161003 x163000 x163001 x163002 x163003 x163004 x163005)) else (none)) else (none)) else (none)) else (none)) else (if x161002.length < 17592186044416 then ((band_Top.f k x163002).bind fun t169 => (keep_Worst.l0 k x32 x33 (wrap64 (x34 + 1)) x161000 x161001 (x161002 ++ [x11]) (wrap64 (x161003 - t169)))) else (none))
end
def keep_Worst.f (k : Nat) (l0_0 : List (List (S41))) (l0_1 : List (S43)) (l0_2 : List (S58)) (a0_3 : Int) (a0_4 : Int) : Option (Int × Int × List Int × Int × Int) := (table_Check.f k l0_0 l0_1 l0_2 a0_3 a0_4).bind fun t156 => (if t156 = 0 then ((keep_tax.f k l0_0 l0_1 l0_2 a0_3 a0_4).bind fun bt157 => (keep_Worst.l0 k l0_1 (l0_1.length : Int) 0 bt157.2.1 bt157.2.2 ([] : List Int) (wrap64 (10000 - bt157.1)))) else (some (0, 0, ([] : List Int), 0, t156)))
def keep_Worst.T13 : Bool × List (List Nat × List Nat) := (true, [([], []), ([0], [0]), ([], []), ([2], [2]), ([], []), ([3, 4], [3, 4]), ([5], [5]), ([6], [6]), ([1, 7], [1, 7])])
def keep_Worst.B13 : List Nat := [0, 1, 0, 4, 0, 28, 60, 124, 255]
theorem keep_Worst.tab13 : rtab .any (opsOf Tryd.f10 13) = keep_Worst.T13 := by kernel_rfl
theorem keep_Worst.bits13 : waitsOk keep_Worst.T13.2 keep_Worst.B13 = true := by kernel_rfl
def keep_Worst.T17 : Bool × List (List Nat × List Nat) := (true, [([], []), ([0], [0]), ([], []), ([2], [2]), ([3], [3]), ([1, 4], [1, 4]), ([0, 1, 2, 3, 4, 5], []), ([6, 5, 4, 0, 1, 2, 3, 4, 5], [5, 6])])
def keep_Worst.B17 : List Nat := [0, 1, 0, 4, 12, 31, 63, 127]
theorem keep_Worst.tab17 : rtab .any (opsOf Tryd.f10 17) = keep_Worst.T17 := by kernel_rfl
theorem keep_Worst.bits17 : waitsOk keep_Worst.T17.2 keep_Worst.B17 = true := by kernel_rfl
set_option maxHeartbeats 8000000 in
set_option maxRecDepth 100000 in
theorem keep_Worst.calls (k : Nat) (A0_0 : Option Addr) (c0_0 : Nat) (l0_0 : List (List (S41))) (A0_1 : Option Addr) (c0_1 : Nat) (l0_1 : List (S43)) (A0_2 : Option Addr) (c0_2 : Nat) (l0_2 : List (S58)) (a0_3 : Int) (a0_4 : Int) (r1 : Int) (r2 : Int) (r3 : List Int) (r4 : Int) (r5 : Int) (w : World) (hr0_0 : Kd.C (Kd.slice 52 k41) w A0_0 l0_0.length l0_0) (hc0_0 : l0_0.length ≤ c0_0) (hr0_1 : Kd.C k43 w A0_1 l0_1.length l0_1) (hc0_1 : l0_1.length ≤ c0_1) (hr0_2 : Kd.C k58 w A0_2 l0_2.length l0_2) (hc0_2 : l0_2.length ≤ c0_2) (h : keep_Worst.f k l0_0 l0_1 l0_2 a0_3 a0_4 = some (r1, r2, r3, r4, r5)) :
    Calls Tryd.prog 10 #[.agg #[.slice A0_0 l0_0.length c0_0, .slice A0_1 l0_1.length c0_1, .slice A0_2 l0_2.length c0_2, .int .i64 a0_3, .int .i64 a0_4]] w fun e w' => ∃ v2_ : Value, e = .returned (.tuple #[.agg #[.int .i64 r1, .int .i64 r2, v2_, .int .i64 r4], .int .i64 r5]) ∧ Kd.R (Kd.int .i64) 3 w' w.heap.size (fun _ => True) v2_ r3 ∧ Below w.heap.size w w' := by
  have hu26 := Tryd.underlying26
  have hu33 := Tryd.underlying39
  have hu43 := Tryd.underlying49
  have hu41 := Tryd.underlying52
  have HR0_0 := AM hr0_0
  have HC0_0 := AM hc0_0
  clear hr0_0 hc0_0
  have HR0_1 := AM hr0_1
  have HC0_1 := AM hc0_1
  clear hr0_1 hc0_1
  have HR0_2 := AM hr0_2
  have HC0_2 := AM hc0_2
  clear hr0_2 hc0_2
  have HB := AM (Below.refl w.heap.size w)
  have H : ((table_Check.f k l0_0 l0_1 l0_2 a0_3 a0_4).bind fun t156 => (if t156 = 0 then ((keep_tax.f k l0_0 l0_1 l0_2 a0_3 a0_4).bind fun bt157 => (keep_Worst.l0 k l0_1 (l0_1.length : Int) 0 bt157.2.1 bt157.2.2 ([] : List Int) (wrap64 (10000 - bt157.1)))) else (some (0, 0, ([] : List Int), 0, t156)))) = some (r1, r2, r3, r4, r5) := h
  clear h
  replace H := Option.bind_eq_some_iff.mp H
  obtain ⟨t156, A20, H⟩ := H
  replace H : (if t156 = 0 then ((keep_tax.f k l0_0 l0_1 l0_2 a0_3 a0_4).bind fun bt157 => (keep_Worst.l0 k l0_1 (l0_1.length : Int) 0 bt157.2.1 bt157.2.2 ([] : List Int) (wrap64 (10000 - bt157.1)))) else (some (0, 0, ([] : List Int), 0, t156))) = some (r1, r2, r3, r4, r5) := H
  have A2 := AM A20
  clear A20
  by_cases c3 : t156 = 0
  rotate_left
  · rw [if_neg c3] at H
    have c3b0 : (t156 == 0) = false := beq_eq_false_iff_ne.mpr c3
    have c3b1 : (t156 != 0) = true := bne_iff_ne.mpr c3
    simp only [Option.some.injEq, Prod.mk.injEq] at H
    obtain ⟨rfl, rfl, rfl, rfl, rfl⟩ := H
    go_enter Tryd.func10, Tryd.ntmps10
    go_wp2_with (first | ((with_reducible refine gD (N := 1) rfl ?_); refine bE ?hg (N := 1) ?hd (cs := #[.slice A0_0 l0_0.length c0_0, .slice A0_1 l0_1.length c0_1, .slice A0_2 l0_2.length c0_2, .int .i64 a0_3, .int .i64 a0_4]) (t := 26) ?hr ?_; (case hd => rfl); (case hg => rfl); (case hr => first | (go_simp; done) | (go_simp; rfl)); intro gb154 hg w66 hbox hb; have n0_ := AM (bT bQ hb); have n1_ := AM (hbox); have n2_ := AM ((by rw [hg]; exact (bZ bQ) : w.heap.size ≤ gb154)); have n3_ := AM ((by rw [hg]; exact (bZ bQ) : w.heap.size ≤ gb154)); clear HB; have HB := n0_; have BK154 := n1_; have GW154 := n2_; have GE154 := n3_; clear n0_ n1_ n2_ n3_; clear hb hbox hg) | ((with_reducible refine gD (N := 2) rfl ?_); refine bE ?hg (N := 2) ?hd (cs := #[.int .i64 0, .int .i64 0, .slice none 0 0, .int .i64 0]) (t := 39) ?hr ?_; (case hd => rfl); (case hg => rfl); (case hr => first | (go_simp; done) | (go_simp; rfl)); intro gb155 hg w67 hbox hb; have n0_ := AM (kB (g := gb154) (o := .cells #[.slice A0_0 l0_0.length c0_0, .slice A0_1 l0_1.length c0_1, .slice A0_2 l0_2.length c0_2, .int .i64 a0_3, .int .i64 a0_4] 26 (0, 0)) (kW BK154) hb); have n1_ := AM (bT bQ hb); have n2_ := AM (hbox); have n3_ := AM ((by rw [hg]; exact (bZ bQ) : w.heap.size ≤ gb155)); have n4_ := AM ((by rw [hg]; exact (bZ bQ) : w.heap.size ≤ gb155)); have n5_ := AM ((by rw [hg]; exact Nat.ne_of_lt (blk_lt (g := gb154) (o := .cells #[.slice A0_0 l0_0.length c0_0, .slice A0_1 l0_1.length c0_1, .slice A0_2 l0_2.length c0_2, .int .i64 a0_3, .int .i64 a0_4] 26 (0, 0)) (kW BK154)) : gb154 ≠ gb155)); have n6_ := AM ((by rw [hg]; exact Nat.ne_of_gt (blk_lt (g := gb154) (o := .cells #[.slice A0_0 l0_0.length c0_0, .slice A0_1 l0_1.length c0_1, .slice A0_2 l0_2.length c0_2, .int .i64 a0_3, .int .i64 a0_4] 26 (0, 0)) (kW BK154)) : gb155 ≠ gb154)); clear BK154; clear HB; have BK154 := n0_; have HB := n1_; have BK155 := n2_; have GW155 := n3_; have GE155 := n4_; have NB154_155 := n5_; have NB155_154 := n6_; clear n0_ n1_ n2_ n3_ n4_ n5_ n6_; clear hb hbox hg; have hnb68 := NB154_155.out; have hnc68 := NB155_154.out; obtain ⟨_, _, _, _, _, _, _, _, _, _⟩ := bX5 BK154.out) | ((with_reducible refine gC (f := 9) rfl ?_); refine gL (some 15) rfl rfl Tryd.func9 (by kernel_rfl) rfl #[.agg #[.slice A0_0 l0_0.length c0_0, .slice A0_1 l0_1.length c0_1, .slice A0_2 l0_2.length c0_2, .int .i64 a0_3, .int .i64 a0_4]] rfl (by (try simp only [List.map_toArray, List.map_cons, List.map_nil]); first | done | rfl | (simp only [List.length_drop, List.length_take]; rfl)) ?_; (with_reducible refine (table_Check.calls k _ _ l0_0 _ _ l0_1 _ _ l0_2 a0_3 a0_4 t156 _ ?side1 ?side2 ?side3 ?side4 ?side5 ?side6 A2.out).mono ?_); (case side1 => exact cQ HR0_0 HB); (case side2 => exact HC0_0.out); (case side3 => exact cQ HR0_1 HB); (case side4 => exact HC0_1.out); (case side5 => exact cQ HR0_2 HB); (case side6 => exact HC0_2.out); rintro e w70 ⟨rfl, hb⟩; refine ⟨_, rfl, ?_⟩; have n0_ := AM (kB (g := gb154) (o := .cells #[.slice A0_0 l0_0.length c0_0, .slice A0_1 l0_1.length c0_1, .slice A0_2 l0_2.length c0_2, .int .i64 a0_3, .int .i64 a0_4] 26 (0, 0)) (kW BK154) hb); have n1_ := AM (kB (g := gb155) (o := .cells #[.int .i64 0, .int .i64 0, .slice none 0 0, .int .i64 0] 39 (0, 0)) (kW BK155) hb); have n2_ := AM (bT bQ hb); clear BK154; clear BK155; clear HB; have BK154 := n0_; have BK155 := n1_; have HB := n2_; clear n0_ n1_ n2_; (try clear hb); (try clear hb2); (try clear hk); (try clear hi); obtain ⟨_, _, _, _, _, _, _, _⟩ := bX4 BK155.out))
    refine bodyPost_ret (results_ct rfl _ _ gb155 39 #[.int .i64 0, .int .i64 0, .slice none 0 0, .int .i64 0] (0, 0) _ rfl (by (with_reducible repeat (first | refine kD ?_ _ | refine k1_ ?_ | refine kA ?_ _)); refine kP (cs := #[.int .i64 0, .int .i64 0, .slice none 0 0, .int .i64 0]) ?_ 3 _ rfl; (with_reducible repeat (first | refine kD ?_ _ | refine k1_ ?_ | refine kA ?_ _)); refine kP (cs := #[.int .i64 0, .int .i64 0, .slice none 0 0, .int .i64 0]) ?_ 2 _ rfl; (with_reducible repeat (first | refine kD ?_ _ | refine k1_ ?_ | refine kA ?_ _)); refine kP (cs := #[.int .i64 0, .int .i64 0, .slice none 0 0, .int .i64 0]) ?_ 1 _ rfl; (with_reducible repeat (first | refine kD ?_ _ | refine k1_ ?_ | refine kA ?_ _)); refine kP (cs := #[.int .i64 0, .int .i64 0, .slice none 0 0, .int .i64 0]) ?_ 0 _ rfl; (with_reducible repeat (first | refine kD ?_ _ | refine k1_ ?_ | refine kA ?_ _)); exact BK155.out) Tryd.underlying39 rfl (by kernel_rfl)) rfl ?_
    exact ⟨_, by first | rfl | (simp [errW_none, errW_some] <;> rfl) | (simp [*, errW_none, errW_some] <;> rfl), by first | exact Kd.R_nil _ _ _ _ _ | exact Kd.N_nil _ _ _ _ _ | exact Kd.V_nil _ _ _ _ _ | exact Kd.Q_nil _ _ _ _ _ | exact Kd.S_nil _ _ _ _ _, by repeat (first | (with_reducible first | exact HB.out | apply bA | apply bD | apply b1 | refine bS ?_ GE154.out | refine bS ?_ GE155.out) | exact HB.out)⟩

  rw [if_pos c3] at H
  have c3b0 : (t156 == 0) = true := beq_iff_eq.mpr c3
  have c3b1 : (t156 != 0) = false := bne_eq_false_iff_eq.mpr c3
  clear c3
  replace H := Option.bind_eq_some_iff.mp H
  obtain ⟨⟨t157, t158, t159⟩, A40, H⟩ := H
  replace H : (keep_Worst.l0 k l0_1 (l0_1.length : Int) 0 t158 t159 ([] : List Int) (wrap64 (10000 - t157))) = some (r1, r2, r3, r4, r5) := H
  have A4 := AM A40
  clear A40
  have H' := AM H
  clear H
  go_enter Tryd.func10, Tryd.ntmps10
  go_wp2_with (first | ((with_reducible refine gD (N := 1) rfl ?_); refine bE ?hg (N := 1) ?hd (cs := #[.slice A0_0 l0_0.length c0_0, .slice A0_1 l0_1.length c0_1, .slice A0_2 l0_2.length c0_2, .int .i64 a0_3, .int .i64 a0_4]) (t := 26) ?hr ?_; (case hd => rfl); (case hg => rfl); (case hr => first | (go_simp; done) | (go_simp; rfl)); intro gb154 hg w5 hbox hb; have n0_ := AM (bT bQ hb); have n1_ := AM (hbox); have n2_ := AM ((by rw [hg]; exact (bZ bQ) : w.heap.size ≤ gb154)); have n3_ := AM ((by rw [hg]; exact (bZ bQ) : w.heap.size ≤ gb154)); clear HB; have HB := n0_; have BK154 := n1_; have GW154 := n2_; have GE154 := n3_; clear n0_ n1_ n2_ n3_; clear hb hbox hg) | ((with_reducible refine gD (N := 2) rfl ?_); refine bE ?hg (N := 2) ?hd (cs := #[.int .i64 0, .int .i64 0, .slice none 0 0, .int .i64 0]) (t := 39) ?hr ?_; (case hd => rfl); (case hg => rfl); (case hr => first | (go_simp; done) | (go_simp; rfl)); intro gb155 hg w6 hbox hb; have n0_ := AM (kB (g := gb154) (o := .cells #[.slice A0_0 l0_0.length c0_0, .slice A0_1 l0_1.length c0_1, .slice A0_2 l0_2.length c0_2, .int .i64 a0_3, .int .i64 a0_4] 26 (0, 0)) (kW BK154) hb); have n1_ := AM (bT bQ hb); have n2_ := AM (hbox); have n3_ := AM ((by rw [hg]; exact (bZ bQ) : w.heap.size ≤ gb155)); have n4_ := AM ((by rw [hg]; exact (bZ bQ) : w.heap.size ≤ gb155)); have n5_ := AM ((by rw [hg]; exact Nat.ne_of_lt (blk_lt (g := gb154) (o := .cells #[.slice A0_0 l0_0.length c0_0, .slice A0_1 l0_1.length c0_1, .slice A0_2 l0_2.length c0_2, .int .i64 a0_3, .int .i64 a0_4] 26 (0, 0)) (kW BK154)) : gb154 ≠ gb155)); have n6_ := AM ((by rw [hg]; exact Nat.ne_of_gt (blk_lt (g := gb154) (o := .cells #[.slice A0_0 l0_0.length c0_0, .slice A0_1 l0_1.length c0_1, .slice A0_2 l0_2.length c0_2, .int .i64 a0_3, .int .i64 a0_4] 26 (0, 0)) (kW BK154)) : gb155 ≠ gb154)); clear BK154; clear HB; have BK154 := n0_; have HB := n1_; have BK155 := n2_; have GW155 := n3_; have GE155 := n4_; have NB154_155 := n5_; have NB155_154 := n6_; clear n0_ n1_ n2_ n3_ n4_ n5_ n6_; clear hb hbox hg; have hnb7 := NB154_155.out; have hnc7 := NB155_154.out; obtain ⟨_, _, _, _, _, _, _, _, _, _⟩ := bX5 BK154.out) | ((with_reducible refine gC (f := 9) rfl ?_); refine gL (some 15) rfl rfl Tryd.func9 (by kernel_rfl) rfl #[.agg #[.slice A0_0 l0_0.length c0_0, .slice A0_1 l0_1.length c0_1, .slice A0_2 l0_2.length c0_2, .int .i64 a0_3, .int .i64 a0_4]] rfl (by (try simp only [List.map_toArray, List.map_cons, List.map_nil]); first | done | rfl | (simp only [List.length_drop, List.length_take]; rfl)) ?_; (with_reducible refine (table_Check.calls k _ _ l0_0 _ _ l0_1 _ _ l0_2 a0_3 a0_4 t156 _ ?side1 ?side2 ?side3 ?side4 ?side5 ?side6 A2.out).mono ?_); (case side1 => exact cQ HR0_0 HB); (case side2 => exact HC0_0.out); (case side3 => exact cQ HR0_1 HB); (case side4 => exact HC0_1.out); (case side5 => exact cQ HR0_2 HB); (case side6 => exact HC0_2.out); rintro e w9 ⟨rfl, hb⟩; refine ⟨_, rfl, ?_⟩; have n0_ := AM (kB (g := gb154) (o := .cells #[.slice A0_0 l0_0.length c0_0, .slice A0_1 l0_1.length c0_1, .slice A0_2 l0_2.length c0_2, .int .i64 a0_3, .int .i64 a0_4] 26 (0, 0)) (kW BK154) hb); have n1_ := AM (kB (g := gb155) (o := .cells #[.int .i64 0, .int .i64 0, .slice none 0 0, .int .i64 0] 39 (0, 0)) (kW BK155) hb); have n2_ := AM (bT bQ hb); clear BK154; clear BK155; clear HB; have BK154 := n0_; have BK155 := n1_; have HB := n2_; clear n0_ n1_ n2_; (try clear hb); (try clear hb2); (try clear hk); (try clear hi); obtain ⟨_, _, _, _, _, _, _, _, _, _⟩ := bX5 BK154.out) | ((with_reducible refine gC (f := 25) rfl ?_); refine gL (some 22) rfl rfl Tryd.func25 (by kernel_rfl) rfl #[.agg #[.slice A0_0 l0_0.length c0_0, .slice A0_1 l0_1.length c0_1, .slice A0_2 l0_2.length c0_2, .int .i64 a0_3, .int .i64 a0_4]] rfl (by (try simp only [List.map_toArray, List.map_cons, List.map_nil]); first | done | rfl | (simp only [List.length_drop, List.length_take]; rfl)) ?_; (with_reducible refine (keep_tax.calls k _ _ l0_0 _ _ l0_1 _ _ l0_2 a0_3 a0_4 t157 t158 t159 _ ?side1 ?side2 ?side3 ?side4 ?side5 ?side6 A4.out).mono ?_); (case side1 => exact cQ HR0_0 HB); (case side2 => exact HC0_0.out); (case side3 => exact cQ HR0_1 HB); (case side4 => exact HC0_1.out); (case side5 => exact cQ HR0_2 HB); (case side6 => exact HC0_2.out); rintro e w11 ⟨rfl, hb⟩; refine ⟨_, rfl, ?_⟩; have n0_ := AM (kB (g := gb154) (o := .cells #[.slice A0_0 l0_0.length c0_0, .slice A0_1 l0_1.length c0_1, .slice A0_2 l0_2.length c0_2, .int .i64 a0_3, .int .i64 a0_4] 26 (0, 0)) (kW BK154) hb); have n1_ := AM (kB (g := gb155) (o := .cells #[.int .i64 0, .int .i64 0, .slice none 0 0, .int .i64 0] 39 (0, 0)) (kW BK155) hb); have n2_ := AM (bT bQ hb); clear BK154; clear BK155; clear HB; have BK154 := n0_; have BK155 := n1_; have HB := n2_; clear n0_ n1_ n2_; (try clear hb); (try clear hb2); (try clear hk); (try clear hi)) | ((with_reducible refine gD (N := 8) rfl ?_); refine bE ?hg (N := 8) ?hd (cs := #[.int .i64 0, .int .i64 0, .slice none 0 0, .int .i64 0]) (t := 39) ?hr ?_; (case hd => rfl); (case hg => rfl); (case hr => first | (go_simp; done) | (go_simp; rfl)); intro gb160 hg w12 hbox hb; have n0_ := AM (kB (g := gb154) (o := .cells #[.slice A0_0 l0_0.length c0_0, .slice A0_1 l0_1.length c0_1, .slice A0_2 l0_2.length c0_2, .int .i64 a0_3, .int .i64 a0_4] 26 (0, 0)) (kW BK154) hb); have n1_ := AM (kB (g := gb155) (o := .cells #[.int .i64 0, .int .i64 0, .slice none 0 0, .int .i64 0] 39 (0, 0)) (kW BK155) hb); have n2_ := AM (bT bQ hb); have n3_ := AM (hbox); have n4_ := AM ((by rw [hg]; exact (bZ bQ) : w.heap.size ≤ gb160)); have n5_ := AM ((by rw [hg]; exact (bZ bQ) : w.heap.size ≤ gb160)); have n6_ := AM ((by rw [hg]; exact Nat.ne_of_lt (blk_lt (g := gb154) (o := .cells #[.slice A0_0 l0_0.length c0_0, .slice A0_1 l0_1.length c0_1, .slice A0_2 l0_2.length c0_2, .int .i64 a0_3, .int .i64 a0_4] 26 (0, 0)) (kW BK154)) : gb154 ≠ gb160)); have n7_ := AM ((by rw [hg]; exact Nat.ne_of_gt (blk_lt (g := gb154) (o := .cells #[.slice A0_0 l0_0.length c0_0, .slice A0_1 l0_1.length c0_1, .slice A0_2 l0_2.length c0_2, .int .i64 a0_3, .int .i64 a0_4] 26 (0, 0)) (kW BK154)) : gb160 ≠ gb154)); have n8_ := AM ((by rw [hg]; exact Nat.ne_of_lt (blk_lt (g := gb155) (o := .cells #[.int .i64 0, .int .i64 0, .slice none 0 0, .int .i64 0] 39 (0, 0)) (kW BK155)) : gb155 ≠ gb160)); have n9_ := AM ((by rw [hg]; exact Nat.ne_of_gt (blk_lt (g := gb155) (o := .cells #[.int .i64 0, .int .i64 0, .slice none 0 0, .int .i64 0] 39 (0, 0)) (kW BK155)) : gb160 ≠ gb155)); clear BK154; clear BK155; clear HB; have BK154 := n0_; have BK155 := n1_; have HB := n2_; have BK160 := n3_; have GW160 := n4_; have GE160 := n5_; have NB154_160 := n6_; have NB160_154 := n7_; have NB155_160 := n8_; have NB160_155 := n9_; clear n0_ n1_ n2_ n3_ n4_ n5_ n6_ n7_ n8_ n9_; clear hb hbox hg; have hnb13 := NB160_154.out; have hnc13 := NB154_160.out; have hnb14 := NB160_155.out; have hnc14 := NB155_160.out; obtain ⟨_, _, _, _, _, _, _, _⟩ := bX4 BK160.out; obtain ⟨_, _, _, _, _, _, _, _, _, _⟩ := bX5 BK154.out))
  go_loopg [34] k (fun kq v34 w' => ∃ (x34_1 : Int) (x161002_1 : List Int) (x161003_1 : Int) (u161002 : Value), v34 = .int .i64 x34_1 ∧ Aside0 (keep_Worst.l0 kq l0_1 (l0_1.length : Int) x34_1 t158 t159 x161002_1 x161003_1 = some (r1, r2, r3, r4, r5)) ∧ Aside0 (kq ≤ k) ∧ Aside0 (Kd.R (Kd.int .i64) 3 w' w.heap.size (fun _ => True) u161002 x161002_1) ∧ Aside0 (w'.heap[gb154]? = some (.cells #[(.slice A0_0 l0_0.length c0_0), (.slice A0_1 l0_1.length c0_1), (.slice A0_2 l0_2.length c0_2), .int .i64 a0_3, .int .i64 a0_4] 26 (0, 0))) ∧ Aside0 (w'.heap[gb155]? = some (.cells #[.int .i64 0, .int .i64 0, (.slice none 0 0), .int .i64 0] 39 (0, 0))) ∧ Aside0 (w'.heap[gb160]? = some (.cells #[.int .i64 t158, .int .i64 t159, u161002, .int .i64 x161003_1] 39 (0, 0))) ∧ Aside0 (Below w.heap.size w w'))
  case atStart => exact ⟨(0), (([] : List Int)), (wrap64 (10000 - t157)), (.slice none 0 0), (by first | rfl | (simp; done) | (simp [*]; done)), H', ⟨Nat.le_refl _⟩, ⟨by first | exact Kd.R_nil _ _ _ _ _ | exact Kd.N_nil _ _ _ _ _ | exact Kd.V_nil _ _ _ _ _ | exact Kd.Q_nil _ _ _ _ _ | exact Kd.S_nil _ _ _ _ _⟩, ⟨by (with_reducible repeat (first | refine kD ?_ _ | refine k1_ ?_ | refine kA ?_ _)); refine kF ?_ NB154_160.out _; (with_reducible repeat (first | refine kD ?_ _ | refine k1_ ?_ | refine kA ?_ _)); refine kF ?_ NB154_160.out _; (with_reducible repeat (first | refine kD ?_ _ | refine k1_ ?_ | refine kA ?_ _)); refine kF ?_ NB154_160.out _; (with_reducible repeat (first | refine kD ?_ _ | refine k1_ ?_ | refine kA ?_ _)); refine kF ?_ NB154_160.out _; (with_reducible repeat (first | refine kD ?_ _ | refine k1_ ?_ | refine kA ?_ _)); exact BK154.out⟩, ⟨by (with_reducible repeat (first | refine kD ?_ _ | refine k1_ ?_ | refine kA ?_ _)); refine kF ?_ NB155_160.out _; (with_reducible repeat (first | refine kD ?_ _ | refine k1_ ?_ | refine kA ?_ _)); refine kF ?_ NB155_160.out _; (with_reducible repeat (first | refine kD ?_ _ | refine k1_ ?_ | refine kA ?_ _)); refine kF ?_ NB155_160.out _; (with_reducible repeat (first | refine kD ?_ _ | refine k1_ ?_ | refine kA ?_ _)); refine kF ?_ NB155_160.out _; (with_reducible repeat (first | refine kD ?_ _ | refine k1_ ?_ | refine kA ?_ _)); exact BK155.out⟩, ⟨by (with_reducible repeat (first | refine kD ?_ _ | refine k1_ ?_ | refine kA ?_ _)); refine kP (cs := #[.int .i64 t158, .int .i64 t159, .slice none 0 0, .int .i64 0]) ?_ 3 _ rfl; (with_reducible repeat (first | refine kD ?_ _ | refine k1_ ?_ | refine kA ?_ _)); refine kP (cs := #[.int .i64 t158, .int .i64 t159, .slice none 0 0, .int .i64 0]) ?_ 2 _ rfl; (with_reducible repeat (first | refine kD ?_ _ | refine k1_ ?_ | refine kA ?_ _)); refine kP (cs := #[.int .i64 t158, .int .i64 0, .slice none 0 0, .int .i64 0]) ?_ 1 _ rfl; (with_reducible repeat (first | refine kD ?_ _ | refine k1_ ?_ | refine kA ?_ _)); refine kP (cs := #[.int .i64 0, .int .i64 0, .slice none 0 0, .int .i64 0]) ?_ 0 _ rfl; (with_reducible repeat (first | refine kD ?_ _ | refine k1_ ?_ | refine kA ?_ _)); exact BK160.out⟩, ⟨by repeat (first | (with_reducible first | exact HB.out | apply bA | apply bD | apply b1 | refine bS ?_ GE154.out | refine bS ?_ GE155.out | refine bS ?_ GE160.out) | exact HB.out)⟩⟩
  case round =>
    clear H'
    obtain ⟨x34_1, x161002_1, x161003_1, u161002, rfl, HA, HK1, HO_161002, BK154, BK155, BK160, HB⟩ := hrel
    cases gk with
    | zero => exact absurd HA.out (by simp [keep_Worst.l0])
    | succ k1 =>
      have H := HA.out
      clear HA
      simp only [keep_Worst.l0] at H
      by_cases c17 : x34_1 < (l0_1.length : Int)
      rotate_left
      · rw [if_neg c17] at H
        have c17b0 := decide_eq_false c17
        clear c17
        simp only [Option.some.injEq, Prod.mk.injEq] at H
        obtain ⟨rfl, rfl, rfl, rfl, rfl⟩ := H
        have hnb60 := NB160_154.out
        have hnc60 := NB154_160.out
        have hnb61 := NB160_155.out
        have hnc61 := NB155_160.out
        obtain ⟨_, _, _, _, _, _, _, _⟩ := bX4 BK160.out
        have hnb63 := NB155_154.out
        have hnc63 := NB154_155.out
        obtain ⟨_, _, _, _, _, _, _, _⟩ := bX4 BK155.out
        obtain ⟨Ao65, co65, eo65⟩ := Kd.R_slice HO_161002.out
        subst eo65
        go_wp2
        refine bodyPost_ret (results_ct rfl _ _ gb155 39 #[.int .i64 t158, .int .i64 t159, .slice Ao65 x161002_1.length co65, .int .i64 x161003_1] (0, 0) _ rfl (by (with_reducible repeat (first | refine kD ?_ _ | refine k1_ ?_ | refine kA ?_ _)); refine kP (cs := #[.int .i64 t158, .int .i64 t159, .slice Ao65 x161002_1.length co65, .int .i64 0]) ?_ 3 _ rfl; (with_reducible repeat (first | refine kD ?_ _ | refine k1_ ?_ | refine kA ?_ _)); refine kP (cs := #[.int .i64 t158, .int .i64 t159, .slice none 0 0, .int .i64 0]) ?_ 2 _ rfl; (with_reducible repeat (first | refine kD ?_ _ | refine k1_ ?_ | refine kA ?_ _)); refine kP (cs := #[.int .i64 t158, .int .i64 0, .slice none 0 0, .int .i64 0]) ?_ 1 _ rfl; (with_reducible repeat (first | refine kD ?_ _ | refine k1_ ?_ | refine kA ?_ _)); refine kP (cs := #[.int .i64 0, .int .i64 0, .slice none 0 0, .int .i64 0]) ?_ 0 _ rfl; (with_reducible repeat (first | refine kD ?_ _ | refine k1_ ?_ | refine kA ?_ _)); exact BK155.out) Tryd.underlying39 rfl (by kernel_rfl)) rfl ?_
        exact ⟨_, by first | rfl | (simp [errW_none, errW_some] <;> rfl) | (simp [*, errW_none, errW_some] <;> rfl), by (with_reducible repeat (first | apply rA | apply rD | apply r1x)); exact Kd.R_mono (Kd.R_far (p := ⟨gb155, 3, none⟩) (Kd.R_far (p := ⟨gb155, 2, none⟩) (Kd.R_far (p := ⟨gb155, 1, none⟩) (Kd.R_far (p := ⟨gb155, 0, none⟩) (Kd.R_types HO_161002.out BK155.out (by decide)) (fun _ hk => hk.2) (.int .i64 t158)) (fun _ hk => hk.2) (.int .i64 t159)) (fun _ hk => hk.2) (.slice Ao65 x161002_1.length co65)) (fun _ hk => hk.2) (.int .i64 x161003_1)) (fun _ hk => trivial), by repeat (first | (with_reducible first | exact HB.out | apply bA | apply bD | apply b1 | refine bS ?_ GE154.out | refine bS ?_ GE155.out | refine bS ?_ GE160.out) | exact HB.out)⟩
      rw [if_pos c17] at H
      have c17b0 := decide_eq_true c17
      clear c17
      by_cases c18 : 0 ≤ x34_1
      rotate_left
      · rw [if_neg c18] at H
        exact absurd H (by simp)
      rw [if_pos c18] at H
      have c18b0 := decide_eq_true c18
      clear c18
      by_cases c19 : x34_1 < (l0_1.length : Int)
      rotate_left
      · rw [if_neg c19] at H
        exact absurd H (by simp)
      rw [if_pos c19] at H
      have c19b0 := decide_eq_true c19
      clear c19
      have H' := AM H
      clear H
      have p161 : 0 ≤ (x34_1 : Int) := of_decide_eq_true (by first | (with_reducible assumption) | assumption)
      have q161 : x34_1 < (l0_1.length : Int) := of_decide_eq_true (by first | (with_reducible assumption) | assumption)
      obtain ⟨ad161, A161_2, c161_2, e161, hx161_0, hx161_1, hx161_2, hx161_3, hx161_4, hx161_5, hl161_2, hi161_2⟩ := at_T43 HR0_1.out x34_1 p161 q161
      cases e161
      replace hx161_0 := (HB.out.cell (bL w _ hx161_0)).trans hx161_0
      replace hx161_1 := (HB.out.cell (bL w _ hx161_1)).trans hx161_1
      replace hx161_2 := (HB.out.cell (bL w _ hx161_2)).trans hx161_2
      replace hx161_3 := (HB.out.cell (bL w _ hx161_3)).trans hx161_3
      replace hx161_4 := (HB.out.cell (bL w _ hx161_4)).trans hx161_4
      replace hx161_5 := (HB.out.cell (bL w _ hx161_5)).trans hx161_5
      have HR161_2 := AM hi161_2
      have HC161_2 := AM hl161_2
      clear hi161_2 hl161_2
      replace p161 := eq_true p161
      replace q161 := eq_true q161
      go_wp2_with (first | ((with_reducible refine gD (N := 10) rfl ?_); refine bE ?hg (N := 10) ?hd (cs := #[.string (⟨#[]⟩ : ByteArray), .int .i64 0, .slice none 0 0, .int .i64 0, .int .i64 0, .int .i64 0]) (t := 49) ?hr ?_; (case hd => rfl); (case hg => rfl); (case hr => first | (go_simp; done) | (go_simp; rfl)); intro gb162 hg w20 hbox hb; have n0_ := AM (Kd.R_below (by (with_reducible repeat (first | apply rA | apply rD | apply r1x)); exact HO_161002.out) hb); have n1_ := AM (kB (g := gb154) (o := .cells #[.slice A0_0 l0_0.length c0_0, .slice (some ad161) l0_1.length c0_1, .slice A0_2 l0_2.length c0_2, .int .i64 a0_3, .int .i64 a0_4] 26 (0, 0)) (kW BK154) hb); have n2_ := AM (kB (g := gb155) (o := .cells #[.int .i64 0, .int .i64 0, .slice none 0 0, .int .i64 0] 39 (0, 0)) (kW BK155) hb); have n3_ := AM (kB (g := gb160) (o := .cells #[.int .i64 t158, .int .i64 t159, u161002, .int .i64 x161003_1] 39 (0, 0)) (kW BK160) hb); have n4_ := AM (bT bQ hb); have n5_ := AM (hbox); have n6_ := AM ((by rw [hg]; exact (bZ bQ) : w.heap.size ≤ gb162)); have n7_ := AM ((by rw [hg]; exact (bZ bQ) : w.heap.size ≤ gb162)); have n8_ := AM ((by rw [hg]; exact Nat.ne_of_lt (blk_lt (g := gb154) (o := .cells #[.slice A0_0 l0_0.length c0_0, .slice (some ad161) l0_1.length c0_1, .slice A0_2 l0_2.length c0_2, .int .i64 a0_3, .int .i64 a0_4] 26 (0, 0)) (kW BK154)) : gb154 ≠ gb162)); have n9_ := AM ((by rw [hg]; exact Nat.ne_of_gt (blk_lt (g := gb154) (o := .cells #[.slice A0_0 l0_0.length c0_0, .slice (some ad161) l0_1.length c0_1, .slice A0_2 l0_2.length c0_2, .int .i64 a0_3, .int .i64 a0_4] 26 (0, 0)) (kW BK154)) : gb162 ≠ gb154)); have n10_ := AM ((by rw [hg]; exact Nat.ne_of_lt (blk_lt (g := gb155) (o := .cells #[.int .i64 0, .int .i64 0, .slice none 0 0, .int .i64 0] 39 (0, 0)) (kW BK155)) : gb155 ≠ gb162)); have n11_ := AM ((by rw [hg]; exact Nat.ne_of_gt (blk_lt (g := gb155) (o := .cells #[.int .i64 0, .int .i64 0, .slice none 0 0, .int .i64 0] 39 (0, 0)) (kW BK155)) : gb162 ≠ gb155)); have n12_ := AM ((by rw [hg]; exact Nat.ne_of_lt (blk_lt (g := gb160) (o := .cells #[.int .i64 t158, .int .i64 t159, u161002, .int .i64 x161003_1] 39 (0, 0)) (kW BK160)) : gb160 ≠ gb162)); have n13_ := AM ((by rw [hg]; exact Nat.ne_of_gt (blk_lt (g := gb160) (o := .cells #[.int .i64 t158, .int .i64 t159, u161002, .int .i64 x161003_1] 39 (0, 0)) (kW BK160)) : gb162 ≠ gb160)); clear HO_161002; clear BK154; clear BK155; clear BK160; clear HB; have HO_161002 := n0_; have BK154 := n1_; have BK155 := n2_; have BK160 := n3_; have HB := n4_; have BK162 := n5_; have GW162 := n6_; have GE162 := n7_; have NB154_162 := n8_; have NB162_154 := n9_; have NB155_162 := n10_; have NB162_155 := n11_; have NB160_162 := n12_; have NB162_160 := n13_; clear n0_ n1_ n2_ n3_ n4_ n5_ n6_ n7_ n8_ n9_ n10_ n11_ n12_ n13_; clear hb hbox hg; have hnb21 := NB162_154.out; have hnc21 := NB154_162.out; have hnb22 := NB162_155.out; have hnc22 := NB155_162.out; have hnb23 := NB162_160.out; have hnc23 := NB160_162.out; obtain ⟨_, _, _, _, _, _, _, _, _, _, _, _⟩ := bX6 BK162.out))
      go_loopg [11, 41] k1 (fun kq v11 v41 w' => ∃ (x11_2 : Int) (x41_2 : Int), v11 = .int .i64 x11_2 ∧ v41 = .int .i64 x41_2 ∧ Aside0 (keep_Worst.l1 kq x11_2 l0_1 (l0_1.length : Int) x34_1 ((rd_T43 l0_1 x34_1).f2) (((rd_T43 l0_1 x34_1).f2).length : Int) x41_2 t158 t159 x161002_1 x161003_1 ((rd_T43 l0_1 x34_1).f0) ((rd_T43 l0_1 x34_1).f1) ((rd_T43 l0_1 x34_1).f2) ((rd_T43 l0_1 x34_1).f3) ((rd_T43 l0_1 x34_1).f4) ((rd_T43 l0_1 x34_1).f5) = some (r1, r2, r3, r4, r5)) ∧ Aside0 (kq ≤ k1) ∧ Aside0 (Kd.R (Kd.int .i64) 3 w' w.heap.size (fun _ => True) u161002 x161002_1) ∧ Aside0 (w'.heap[gb154]? = some (.cells #[(.slice A0_0 l0_0.length c0_0), (.slice (some ad161) l0_1.length c0_1), (.slice A0_2 l0_2.length c0_2), .int .i64 a0_3, .int .i64 a0_4] 26 (0, 0))) ∧ Aside0 (w'.heap[gb155]? = some (.cells #[.int .i64 0, .int .i64 0, (.slice none 0 0), .int .i64 0] 39 (0, 0))) ∧ Aside0 (w'.heap[gb160]? = some (.cells #[.int .i64 t158, .int .i64 t159, u161002, .int .i64 x161003_1] 39 (0, 0))) ∧ Aside0 (w'.heap[gb162]? = some (.cells #[.string ((rd_T43 l0_1 x34_1).f0), .int .i64 ((rd_T43 l0_1 x34_1).f1), (.slice A161_2 ((rd_T43 l0_1 x34_1).f2).length c161_2), .int .i64 ((rd_T43 l0_1 x34_1).f3), .int .i64 ((rd_T43 l0_1 x34_1).f4), .int .i64 ((rd_T43 l0_1 x34_1).f5)] 49 (0, 0))) ∧ Aside0 (Below w.heap.size w w'))
      case atStart => exact ⟨(0), (0), (by first | rfl | (simp; done) | (simp [*]; done)), (by first | rfl | (simp; done) | (simp [*]; done)), H', ⟨Nat.le_refl _⟩, ⟨by (with_reducible repeat (first | apply rA | apply rD | apply r1x)); exact Kd.R_mono (Kd.R_far (p := ⟨gb162, 5, none⟩) (Kd.R_far (p := ⟨gb162, 4, none⟩) (Kd.R_far (p := ⟨gb162, 3, none⟩) (Kd.R_far (p := ⟨gb162, 2, none⟩) (Kd.R_far (p := ⟨gb162, 1, none⟩) (Kd.R_far (p := ⟨gb162, 0, none⟩) (Kd.R_types HO_161002.out BK162.out (by decide)) (fun _ hk => hk.2) (.string ((rd_T43 l0_1 x34_1).f0))) (fun _ hk => hk.2) (.int .i64 ((rd_T43 l0_1 x34_1).f1))) (fun _ hk => hk.2) (.slice A161_2 ((rd_T43 l0_1 x34_1).f2).length c161_2)) (fun _ hk => hk.2) (.int .i64 ((rd_T43 l0_1 x34_1).f3))) (fun _ hk => hk.2) (.int .i64 ((rd_T43 l0_1 x34_1).f4))) (fun _ hk => hk.2) (.int .i64 ((rd_T43 l0_1 x34_1).f5))) (fun _ hk => trivial)⟩, ⟨by (with_reducible repeat (first | refine kD ?_ _ | refine k1_ ?_ | refine kA ?_ _)); refine kF ?_ NB154_162.out _; (with_reducible repeat (first | refine kD ?_ _ | refine k1_ ?_ | refine kA ?_ _)); refine kF ?_ NB154_162.out _; (with_reducible repeat (first | refine kD ?_ _ | refine k1_ ?_ | refine kA ?_ _)); refine kF ?_ NB154_162.out _; (with_reducible repeat (first | refine kD ?_ _ | refine k1_ ?_ | refine kA ?_ _)); refine kF ?_ NB154_162.out _; (with_reducible repeat (first | refine kD ?_ _ | refine k1_ ?_ | refine kA ?_ _)); refine kF ?_ NB154_162.out _; (with_reducible repeat (first | refine kD ?_ _ | refine k1_ ?_ | refine kA ?_ _)); refine kF ?_ NB154_162.out _; (with_reducible repeat (first | refine kD ?_ _ | refine k1_ ?_ | refine kA ?_ _)); exact BK154.out⟩, ⟨by (with_reducible repeat (first | refine kD ?_ _ | refine k1_ ?_ | refine kA ?_ _)); refine kF ?_ NB155_162.out _; (with_reducible repeat (first | refine kD ?_ _ | refine k1_ ?_ | refine kA ?_ _)); refine kF ?_ NB155_162.out _; (with_reducible repeat (first | refine kD ?_ _ | refine k1_ ?_ | refine kA ?_ _)); refine kF ?_ NB155_162.out _; (with_reducible repeat (first | refine kD ?_ _ | refine k1_ ?_ | refine kA ?_ _)); refine kF ?_ NB155_162.out _; (with_reducible repeat (first | refine kD ?_ _ | refine k1_ ?_ | refine kA ?_ _)); refine kF ?_ NB155_162.out _; (with_reducible repeat (first | refine kD ?_ _ | refine k1_ ?_ | refine kA ?_ _)); refine kF ?_ NB155_162.out _; (with_reducible repeat (first | refine kD ?_ _ | refine k1_ ?_ | refine kA ?_ _)); exact BK155.out⟩, ⟨by (with_reducible repeat (first | refine kD ?_ _ | refine k1_ ?_ | refine kA ?_ _)); refine kF ?_ NB160_162.out _; (with_reducible repeat (first | refine kD ?_ _ | refine k1_ ?_ | refine kA ?_ _)); refine kF ?_ NB160_162.out _; (with_reducible repeat (first | refine kD ?_ _ | refine k1_ ?_ | refine kA ?_ _)); refine kF ?_ NB160_162.out _; (with_reducible repeat (first | refine kD ?_ _ | refine k1_ ?_ | refine kA ?_ _)); refine kF ?_ NB160_162.out _; (with_reducible repeat (first | refine kD ?_ _ | refine k1_ ?_ | refine kA ?_ _)); refine kF ?_ NB160_162.out _; (with_reducible repeat (first | refine kD ?_ _ | refine k1_ ?_ | refine kA ?_ _)); refine kF ?_ NB160_162.out _; (with_reducible repeat (first | refine kD ?_ _ | refine k1_ ?_ | refine kA ?_ _)); exact BK160.out⟩, ⟨by (with_reducible repeat (first | refine kD ?_ _ | refine k1_ ?_ | refine kA ?_ _)); refine kP (cs := #[.string ((rd_T43 l0_1 x34_1).f0), .int .i64 ((rd_T43 l0_1 x34_1).f1), .slice A161_2 ((rd_T43 l0_1 x34_1).f2).length c161_2, .int .i64 ((rd_T43 l0_1 x34_1).f3), .int .i64 ((rd_T43 l0_1 x34_1).f4), .int .i64 0]) ?_ 5 _ rfl; (with_reducible repeat (first | refine kD ?_ _ | refine k1_ ?_ | refine kA ?_ _)); refine kP (cs := #[.string ((rd_T43 l0_1 x34_1).f0), .int .i64 ((rd_T43 l0_1 x34_1).f1), .slice A161_2 ((rd_T43 l0_1 x34_1).f2).length c161_2, .int .i64 ((rd_T43 l0_1 x34_1).f3), .int .i64 0, .int .i64 0]) ?_ 4 _ rfl; (with_reducible repeat (first | refine kD ?_ _ | refine k1_ ?_ | refine kA ?_ _)); refine kP (cs := #[.string ((rd_T43 l0_1 x34_1).f0), .int .i64 ((rd_T43 l0_1 x34_1).f1), .slice A161_2 ((rd_T43 l0_1 x34_1).f2).length c161_2, .int .i64 0, .int .i64 0, .int .i64 0]) ?_ 3 _ rfl; (with_reducible repeat (first | refine kD ?_ _ | refine k1_ ?_ | refine kA ?_ _)); refine kP (cs := #[.string ((rd_T43 l0_1 x34_1).f0), .int .i64 ((rd_T43 l0_1 x34_1).f1), .slice none 0 0, .int .i64 0, .int .i64 0, .int .i64 0]) ?_ 2 _ rfl; (with_reducible repeat (first | refine kD ?_ _ | refine k1_ ?_ | refine kA ?_ _)); refine kP (cs := #[.string ((rd_T43 l0_1 x34_1).f0), .int .i64 0, .slice none 0 0, .int .i64 0, .int .i64 0, .int .i64 0]) ?_ 1 _ rfl; (with_reducible repeat (first | refine kD ?_ _ | refine k1_ ?_ | refine kA ?_ _)); refine kP (cs := #[.string (⟨#[]⟩ : ByteArray), .int .i64 0, .slice none 0 0, .int .i64 0, .int .i64 0, .int .i64 0]) ?_ 0 _ rfl; (with_reducible repeat (first | refine kD ?_ _ | refine k1_ ?_ | refine kA ?_ _)); exact BK162.out⟩, ⟨by repeat (first | (with_reducible first | exact HB.out | apply bA | apply bD | apply b1 | refine bS ?_ GE154.out | refine bS ?_ GE155.out | refine bS ?_ GE160.out | refine bS ?_ GE162.out) | exact HB.out)⟩⟩
      case round =>
        clear H'
        obtain ⟨x11_2, x41_2, rfl, rfl, HA, HK2, HO_161002, BK154, BK155, BK160, BK162, HB⟩ := hrel
        cases gk with
        | zero => exact absurd HA.out (by simp [keep_Worst.l1])
        | succ k2 =>
          have H := HA.out
          clear HA
          simp only [keep_Worst.l1] at H
          by_cases c25 : x41_2 < (((rd_T43 l0_1 x34_1).f2).length : Int)
          rotate_left
          · rw [if_neg c25] at H
            have c25b0 := decide_eq_false c25
            clear c25
            by_cases c47 : x161002_1.length < 17592186044416
            rotate_left
            · rw [if_neg c47] at H
              exact absurd H (by simp)
            rw [if_pos c47] at H
            have LMc47 := AM c47
            clear c47
            obtain ⟨y166, hy166⟩ : ∃ y_ : List Int, y_ = (x161002_1 ++ [x11_2]) := ⟨_, rfl⟩
            replace H : ((band_Top.f k2 ((rd_T43 l0_1 x34_1).f2)).bind fun t169 => (keep_Worst.l0 k2 l0_1 (l0_1.length : Int) (wrap64 (x34_1 + 1)) t158 t159 y166 (wrap64 (x161003_1 - t169)))) = some (r1, r2, r3, r4, r5) := by first | (rw [hy166]; with_reducible exact H) | (have H2_ := (Option.bind_some _ _).symm.trans H; rw [hy166]; with_reducible exact H2_) | (have H2_ := (Option.bind_some _ _).symm.trans H; with_reducible exact H2_) | with_reducible exact H | (rw [hy166]; exact H) | exact H
            have Ny166 := AM hy166
            clear hy166
            replace H := Option.bind_eq_some_iff.mp H
            obtain ⟨t169, A480, H⟩ := H
            replace H : (keep_Worst.l0 k2 l0_1 (l0_1.length : Int) (wrap64 (x34_1 + 1)) t158 t159 y166 (wrap64 (x161003_1 - t169))) = some (r1, r2, r3, r4, r5) := H
            have A48 := AM A480
            clear A480
            have H' := AM H
            clear H
            have hnb49 := NB160_154.out
            have hnc49 := NB154_160.out
            have hnb50 := NB160_155.out
            have hnc50 := NB155_160.out
            have hnb51 := NB160_162.out
            have hnc51 := NB162_160.out
            obtain ⟨_, _, _, _, _, _, _, _⟩ := bX4 BK160.out
            try go_wp2_with (first | ((with_reducible refine gate_builtin (b := .append) (xs := #[.tmp 58, .tmp 60]) rfl ?_); at_builtin; refine Kd.R_append (Kd.int .i64) (w0 := w) w.heap.size rfl (.tmp 58) (.tmp 60) 37 3 (.int .i64 0) 8 rfl Tryd.underlying37 info3 rfl (by decide) (by omega) u161002 x161002_1 x11_2 [.int .i64 x11_2] (fun _ => True) (fun _ => False) rfl rfl ?aP (fun _ hk => hk.elim) ?aF ?aO ?aB ?aS ?aL ?_; (case aP => exact rfl); (case aB => exact bQ); (case aF => exact (fun _ _ => trivial)); (case aO => exact (by (with_reducible repeat (first | apply rA | apply rD | apply r1x)); exact HO_161002.out)); (case aS => exact (bZ bQ)); (case aL => have := LMc47.out; omega); intro v167 w53 ho hb hg hat; rw [← Ny166.out] at ho; have n0_ := AM (blk_grown (g := gb154) (o := .cells #[.slice A0_0 l0_0.length c0_0, .slice (some ad161) l0_1.length c0_1, .slice A0_2 l0_2.length c0_2, .int .i64 a0_3, .int .i64 a0_4] 26 (0, 0)) (kW BK154) hg (Kd.R_ne HO_161002.out BK154.out (by decide))); have n1_ := AM (blk_grown (g := gb155) (o := .cells #[.int .i64 0, .int .i64 0, .slice none 0 0, .int .i64 0] 39 (0, 0)) (kW BK155) hg (Kd.R_ne HO_161002.out BK155.out (by decide))); have n2_ := AM (blk_grown (g := gb160) (o := .cells #[.int .i64 t158, .int .i64 t159, u161002, .int .i64 x161003_1] 39 (0, 0)) (kW BK160) hg (Kd.R_ne HO_161002.out BK160.out (by decide))); have n3_ := AM (blk_grown (g := gb162) (o := .cells #[.string ((rd_T43 l0_1 x34_1).f0), .int .i64 ((rd_T43 l0_1 x34_1).f1), .slice A161_2 ((rd_T43 l0_1 x34_1).f2).length c161_2, .int .i64 ((rd_T43 l0_1 x34_1).f3), .int .i64 ((rd_T43 l0_1 x34_1).f4), .int .i64 ((rd_T43 l0_1 x34_1).f5)] 49 (0, 0)) (kW BK162) hg (Kd.R_ne HO_161002.out BK162.out (by decide))); have n4_ := AM (hb); have n5_ := AM (ho); clear BK154; clear BK155; clear BK160; clear BK162; clear HB; clear HO_161002; have BK154 := n0_; have BK155 := n1_; have BK160 := n2_; have BK162 := n3_; have HB := n4_; have HO168 := n5_; clear n0_ n1_ n2_ n3_ n4_ n5_; clear ho hb hg hat; obtain ⟨Ao54, co54, eo54⟩ := Kd.R_slice HO168.out; subst eo54; obtain ⟨_, _, _, _, _, _, _, _⟩ := bX4 BK160.out))
            have n0_ : Aside0 (Kd.R (Kd.int .i64) 3 (w53.setCell ⟨gb160, 2, none⟩ (.slice Ao54 y166.length co54)) w.heap.size (fun _ => True) (.slice Ao54 y166.length co54) y166) := ⟨by (with_reducible repeat (first | apply rA | apply rD | apply r1x)); exact Kd.R_mono (Kd.R_far (p := ⟨gb160, 2, none⟩) (Kd.R_types HO168.out BK160.out (by decide)) (fun _ hk => hk.2) (.slice Ao54 y166.length co54)) (fun _ hk => trivial)⟩
            have n1_ : Aside0 ((w53.setCell ⟨gb160, 2, none⟩ (.slice Ao54 y166.length co54)).heap[gb154]? = some (.cells #[.slice A0_0 l0_0.length c0_0, .slice (some ad161) l0_1.length c0_1, .slice A0_2 l0_2.length c0_2, .int .i64 a0_3, .int .i64 a0_4] 26 (0, 0))) := ⟨by (with_reducible repeat (first | refine kD ?_ _ | refine k1_ ?_ | refine kA ?_ _)); refine kF ?_ NB154_160.out _; (with_reducible repeat (first | refine kD ?_ _ | refine k1_ ?_ | refine kA ?_ _)); exact BK154.out⟩
            have n2_ : Aside0 ((w53.setCell ⟨gb160, 2, none⟩ (.slice Ao54 y166.length co54)).heap[gb155]? = some (.cells #[.int .i64 0, .int .i64 0, .slice none 0 0, .int .i64 0] 39 (0, 0))) := ⟨by (with_reducible repeat (first | refine kD ?_ _ | refine k1_ ?_ | refine kA ?_ _)); refine kF ?_ NB155_160.out _; (with_reducible repeat (first | refine kD ?_ _ | refine k1_ ?_ | refine kA ?_ _)); exact BK155.out⟩
            have n3_ : Aside0 ((w53.setCell ⟨gb160, 2, none⟩ (.slice Ao54 y166.length co54)).heap[gb160]? = some (.cells #[.int .i64 t158, .int .i64 t159, .slice Ao54 y166.length co54, .int .i64 x161003_1] 39 (0, 0))) := ⟨by (with_reducible repeat (first | refine kD ?_ _ | refine k1_ ?_ | refine kA ?_ _)); refine kP (cs := #[.int .i64 t158, .int .i64 t159, u161002, .int .i64 x161003_1]) ?_ 2 _ rfl; (with_reducible repeat (first | refine kD ?_ _ | refine k1_ ?_ | refine kA ?_ _)); exact BK160.out⟩
            have n4_ : Aside0 ((w53.setCell ⟨gb160, 2, none⟩ (.slice Ao54 y166.length co54)).heap[gb162]? = some (.cells #[.string ((rd_T43 l0_1 x34_1).f0), .int .i64 ((rd_T43 l0_1 x34_1).f1), .slice A161_2 ((rd_T43 l0_1 x34_1).f2).length c161_2, .int .i64 ((rd_T43 l0_1 x34_1).f3), .int .i64 ((rd_T43 l0_1 x34_1).f4), .int .i64 ((rd_T43 l0_1 x34_1).f5)] 49 (0, 0))) := ⟨by (with_reducible repeat (first | refine kD ?_ _ | refine k1_ ?_ | refine kA ?_ _)); refine kF ?_ NB162_160.out _; (with_reducible repeat (first | refine kD ?_ _ | refine k1_ ?_ | refine kA ?_ _)); exact BK162.out⟩
            have n5_ : Aside0 (Below w.heap.size w (w53.setCell ⟨gb160, 2, none⟩ (.slice Ao54 y166.length co54))) := ⟨by repeat (first | (with_reducible first | exact HB.out | apply bA | apply bD | apply b1 | refine bS ?_ GE154.out | refine bS ?_ GE155.out | refine bS ?_ GE160.out | refine bS ?_ GE162.out) | exact HB.out)⟩
            (try clear HO168)
            (try clear BK154)
            (try clear BK155)
            (try clear BK160)
            (try clear BK162)
            (try clear HB)
            generalize (w53.setCell ⟨gb160, 2, none⟩ (.slice Ao54 y166.length co54)) = w56 at n0_ n1_ n2_ n3_ n4_ n5_ ⊢
            have HO168 := n0_
            have BK154 := n1_
            have BK155 := n2_
            have BK160 := n3_
            have BK162 := n4_
            have HB := n5_
            clear n0_ n1_ n2_ n3_ n4_ n5_
            have n0_ := AM (r1x HO168.out)
            have n1_ := AM (k1_ BK154.out)
            have n2_ := AM (k1_ BK155.out)
            have n3_ := AM (k1_ BK160.out)
            have n4_ := AM (k1_ BK162.out)
            have n5_ := AM (b1 HB.out)
            clear HO168
            clear BK154
            clear BK155
            clear BK160
            clear BK162
            clear HB
            have HO168 := n0_
            have BK154 := n1_
            have BK155 := n2_
            have BK160 := n3_
            have BK162 := n4_
            have HB := n5_
            clear n0_ n1_ n2_ n3_ n4_ n5_
            refine start_ (n := 8) (S := fun w' => w'.cell? ⟨gb160, 0, none⟩ = some (.int .i64 t158) ∧ w'.cell? ⟨gb160, 1, none⟩ = some (.int .i64 t159) ∧ w'.cell? ⟨gb160, 2, none⟩ = some (.slice Ao54 y166.length co54) ∧ w'.cell? ⟨gb160, 3, none⟩ = some (.int .i64 x161003_1) ∧ w'.cell? ⟨gb162, 0, none⟩ = some (.string ((rd_T43 l0_1 x34_1).f0)) ∧ w'.cell? ⟨gb162, 1, none⟩ = some (.int .i64 ((rd_T43 l0_1 x34_1).f1)) ∧ w'.cell? ⟨gb162, 2, none⟩ = some (.slice A161_2 ((rd_T43 l0_1 x34_1).f2).length c161_2) ∧ w'.cell? ⟨gb162, 3, none⟩ = some (.int .i64 ((rd_T43 l0_1 x34_1).f3)) ∧ w'.cell? ⟨gb162, 4, none⟩ = some (.int .i64 ((rd_T43 l0_1 x34_1).f4)) ∧ w'.cell? ⟨gb162, 5, none⟩ = some (.int .i64 ((rd_T43 l0_1 x34_1).f5))) (ds := [7]) #[false, false, false, false, false, false, false, false] (by kernel_rfl) rfl rfl ⟨(bC BK160.out 0).trans rfl, (bC BK160.out 1).trans rfl, (bC BK160.out 2).trans rfl, (bC BK160.out 3).trans rfl, (bC BK162.out 0).trans rfl, (bC BK162.out 1).trans rfl, (bC BK162.out 2).trans rfl, (bC BK162.out 3).trans rfl, (bC BK162.out 4).trans rfl, (bC BK162.out 5).trans rfl⟩ (fun hHeld => ?_); refine with_tabW keep_Worst.tab17 keep_Worst.bits17 (fun HT_ HW_ => ?_)
            generalize w56.drew = w57 at HO168 BK154 BK155 BK160 BK162 HB hHeld ⊢
            refine pure_ (i := 0) (N := some 63) (v := ?_) (a' := ?_) #[true, false, false, false, false, false, false, false] rfl rfl (any_of HT_.out (by kernel_rfl)) (fun _ _ _ h => h) (Or.inl ⟨by rfl, ?_⟩) ?_ ?_
            rotate_left
            · intro w'
              go_simp
              with_reducible rfl
            rotate_left
            · simp only [Act.put, List.setIfInBounds_toArray, List.set_cons_zero, List.set_cons_succ, i64_w, i32_w]
              rfl
            refine pure_ (i := 2) (N := some 65) (v := ?_) (a' := ?_) #[true, false, true, false, false, false, false, false] rfl rfl (any_of HT_.out (by kernel_rfl)) (fun _ _ _ h => h) (Or.inl ⟨by rfl, ?_⟩) ?_ ?_
            rotate_left
            · intro w'
              go_simp
              with_reducible rfl
            rotate_left
            · simp only [Act.put, List.setIfInBounds_toArray, List.set_cons_zero, List.set_cons_succ, i64_w, i32_w]
              rfl
            refine take_ (i := 1) (N := some 64) (v := ?_) (a' := ?_) #[true, true, true, false, false, false, false, false] rfl rfl (take_ofW HT_.out HW_.out (by kernel_rfl)) (fun _ _ _ h => h) (Or.inl ⟨by rfl, ?_⟩) hHeld ?_ ?_
            rotate_left
            · rintro w' ⟨s0, s1, s2, s3, s4, s5, s6, s7, s8, s9⟩
              go_simp
              with_reducible rfl
            rotate_left
            · simp only [Act.put, List.setIfInBounds_toArray, List.set_cons_zero, List.set_cons_succ, i64_w, i32_w]
              rfl
            refine take_ (i := 3) (N := some 66) (v := ?_) (a' := ?_) #[true, true, true, true, false, false, false, false] rfl rfl (take_ofW HT_.out HW_.out (by kernel_rfl)) (fun _ _ _ h => h) (Or.inl ⟨by rfl, ?_⟩) hHeld ?_ ?_
            rotate_left
            · rintro w' ⟨s0, s1, s2, s3, s4, s5, s6, s7, s8, s9⟩
              go_simp
              with_reducible rfl
            rotate_left
            · simp only [Act.put, List.setIfInBounds_toArray, List.set_cons_zero, List.set_cons_succ, i64_w, i32_w]
              rfl
            refine one_ (i := 4) (N := some 67) #[true, true, true, true, true, false, false, false] rfl rfl (one_of HT_.out (by kernel_rfl)) (by decide) (fun K hK => ?_)
            refine goes_ Tryd.func26 (by kernel_rfl) rfl #[.slice A161_2 ((rd_T43 l0_1 x34_1).f2).length c161_2] (by rfl) rfl rfl (by (try simp only [List.map_toArray, List.map_cons, List.map_nil]); first | done | rfl | (simp only [List.length_drop, List.length_take]; rfl)) ?_
            with_reducible refine (band_Top.calls k2 _ _ ((rd_T43 l0_1 x34_1).f2) t169 _ ?side1 ?side2 A48.out).mono ?_
            (case side1 => exact cQ HR161_2 HB)
            (case side2 => exact HC161_2.out)
            rintro e w58 ⟨rfl, hb⟩
            refine ⟨_, rfl, ?_⟩
            have n0_ := AM (Kd.R_below (by (with_reducible repeat (first | apply rA | apply rD | apply r1x)); exact HO168.out) hb)
            have n1_ := AM (kB (g := gb154) (o := .cells #[.slice A0_0 l0_0.length c0_0, .slice (some ad161) l0_1.length c0_1, .slice A0_2 l0_2.length c0_2, .int .i64 a0_3, .int .i64 a0_4] 26 (0, 0)) (kW BK154) hb)
            have n2_ := AM (kB (g := gb155) (o := .cells #[.int .i64 0, .int .i64 0, .slice none 0 0, .int .i64 0] 39 (0, 0)) (kW BK155) hb)
            have n3_ := AM (kB (g := gb160) (o := .cells #[.int .i64 t158, .int .i64 t159, .slice Ao54 y166.length co54, .int .i64 x161003_1] 39 (0, 0)) (kW BK160) hb)
            have n4_ := AM (kB (g := gb162) (o := .cells #[.string ((rd_T43 l0_1 x34_1).f0), .int .i64 ((rd_T43 l0_1 x34_1).f1), .slice A161_2 ((rd_T43 l0_1 x34_1).f2).length c161_2, .int .i64 ((rd_T43 l0_1 x34_1).f3), .int .i64 ((rd_T43 l0_1 x34_1).f4), .int .i64 ((rd_T43 l0_1 x34_1).f5)] 49 (0, 0)) (kW BK162) hb)
            have n5_ := AM (bT bQ hb)
            clear HO168
            clear BK154
            clear BK155
            clear BK160
            clear BK162
            clear HB
            have HO168 := n0_
            have BK154 := n1_
            have BK155 := n2_
            have BK160 := n3_
            have BK162 := n4_
            have HB := n5_
            clear n0_ n1_ n2_ n3_ n4_ n5_
            (try clear hb)
            (try clear hb2)
            (try clear hk)
            (try clear hi)
            refine hK.out _ _ ⟨(bC BK160.out 0).trans rfl, (bC BK160.out 1).trans rfl, (bC BK160.out 2).trans rfl, (bC BK160.out 3).trans rfl, (bC BK162.out 0).trans rfl, (bC BK162.out 1).trans rfl, (bC BK162.out 2).trans rfl, (bC BK162.out 3).trans rfl, (bC BK162.out 4).trans rfl, (bC BK162.out 5).trans rfl⟩ (fun hHeld => ?_)
            clear hK K
            refine norm_ (a' := ?_) ?_ ?_
            rotate_left
            · show Act.put _ (some 67) _ = _
              simp only [Act.put, List.setIfInBounds_toArray, List.set_cons_zero, List.set_cons_succ, i64_w, i32_w]
              rfl
            refine pure_ (i := 5) (N := some 68) (v := ?_) (a' := ?_) #[true, true, true, true, true, true, false, false] rfl rfl (any_of HT_.out (by kernel_rfl)) (fun _ _ _ h => h) (Or.inl ⟨by rfl, ?_⟩) ?_ ?_
            rotate_left
            · intro w'
              go_simp
              with_reducible rfl
            rotate_left
            · simp only [Act.put, List.setIfInBounds_toArray, List.set_cons_zero, List.set_cons_succ, i64_w, i32_w]
              rfl
            refine pure_ (i := 6) (N := some 69) (v := ?_) (a' := ?_) #[true, true, true, true, true, true, true, false] rfl rfl (any_of HT_.out (by kernel_rfl)) (fun _ _ _ h => h) (Or.inl ⟨by rfl, ?_⟩) ?_ ?_
            rotate_left
            · intro w'
              go_simp
              with_reducible rfl
            rotate_left
            · simp only [Act.put, List.setIfInBounds_toArray, List.set_cons_zero, List.set_cons_succ, i64_w, i32_w]
              rfl
            refine last_ (i := 7) (N := none) #[true, true, true, true, true, true, true, true] rfl rfl (one_of HT_.out (by kernel_rfl)) (by decide) (fun K hK => ?_)
            have hs59 : w58.cell? ⟨gb160, 3, none⟩ = some (.int .i64 x161003_1) := (bC BK160.out 3).trans rfl
            have hfs59 := bF BK160.out 3
            have hns59_0 := NB154_160.out
            have hns59_1 := NB155_160.out
            have hns59_3 := NB162_160.out
            have hms59_0 := NB160_154.out
            have hms59_1 := NB160_155.out
            have hms59_3 := NB160_162.out
            refine skip_ (w1 := ?_) (by rfl) rfl ?_ ?_
            rotate_left
            · go_simp
              rfl
            refine hK.out _ _ ?_
            clear hK K
            refine done_ (done_of HT_.out (by kernel_rfl)) ?_
            try go_wp2
            go_roundg k2
            case measure => have := HK1.out; have := HK2.out; omega
            case rel => exact ⟨(wrap64 (x34_1 + 1)), (y166), (wrap64 (x161003_1 - t169)), (.slice Ao54 y166.length co54), (by first | rfl | (simp; done) | (simp [*]; done)), H', ⟨by have := HK1.out; have := HK2.out; omega⟩, ⟨by (with_reducible repeat (first | apply rA | apply rD | apply r1x)); exact Kd.R_mono (Kd.R_far (p := ⟨gb160, 3, none⟩) (Kd.R_types HO168.out BK160.out (by decide)) (fun _ hk => hk.2) (.int .i64 (wrap64 (x161003_1 - t169)))) (fun _ hk => trivial)⟩, ⟨by (with_reducible repeat (first | refine kD ?_ _ | refine k1_ ?_ | refine kA ?_ _)); refine kF ?_ NB154_160.out _; (with_reducible repeat (first | refine kD ?_ _ | refine k1_ ?_ | refine kA ?_ _)); exact BK154.out⟩, ⟨by (with_reducible repeat (first | refine kD ?_ _ | refine k1_ ?_ | refine kA ?_ _)); refine kF ?_ NB155_160.out _; (with_reducible repeat (first | refine kD ?_ _ | refine k1_ ?_ | refine kA ?_ _)); exact BK155.out⟩, ⟨by (with_reducible repeat (first | refine kD ?_ _ | refine k1_ ?_ | refine kA ?_ _)); refine kP (cs := #[.int .i64 t158, .int .i64 t159, .slice Ao54 y166.length co54, .int .i64 x161003_1]) ?_ 3 _ rfl; (with_reducible repeat (first | refine kD ?_ _ | refine k1_ ?_ | refine kA ?_ _)); exact BK160.out⟩, ⟨by repeat (first | (with_reducible first | exact HB.out | apply bA | apply bD | apply b1 | refine bS ?_ GE154.out | refine bS ?_ GE155.out | refine bS ?_ GE160.out | refine bS ?_ GE162.out) | exact HB.out)⟩⟩
          rw [if_pos c25] at H
          have c25b0 := decide_eq_true c25
          clear c25
          by_cases c26 : 0 ≤ x41_2
          rotate_left
          · rw [if_neg c26] at H
            exact absurd H (by simp)
          rw [if_pos c26] at H
          have c26b0 := decide_eq_true c26
          clear c26
          by_cases c27 : x41_2 < (((rd_T43 l0_1 x34_1).f2).length : Int)
          rotate_left
          · rw [if_neg c27] at H
            exact absurd H (by simp)
          rw [if_pos c27] at H
          have c27b0 := decide_eq_true c27
          clear c27
          by_cases c28 : 0 ≤ x11_2
          rotate_left
          · rw [if_neg c28] at H
            exact absurd H (by simp)
          rw [if_pos c28] at H
          have c28b0 := decide_eq_true c28
          clear c28
          by_cases c29 : x11_2 < (((rd_T43 l0_1 x34_1).f2).length : Int)
          rotate_left
          · rw [if_neg c29] at H
            exact absurd H (by simp)
          rw [if_pos c29] at H
          have c29b0 := decide_eq_true c29
          clear c29
          by_cases c30 : ((rd_T41 ((rd_T43 l0_1 x34_1).f2) x41_2).f1) > ((rd_T41 ((rd_T43 l0_1 x34_1).f2) x11_2).f1)
          · rw [if_pos c30] at H
            have c30b0 := decide_eq_true c30
            clear c30
            have H' := AM H
            clear H
            have p163 : 0 ≤ (x41_2 : Int) := of_decide_eq_true (by first | (with_reducible assumption) | assumption)
            have q163 : x41_2 < (((rd_T43 l0_1 x34_1).f2).length : Int) := of_decide_eq_true (by first | (with_reducible assumption) | assumption)
            obtain ⟨ad163, e163, hx163_0, hx163_1, hx163_2⟩ := at_T41 HR161_2.out x41_2 p163 q163
            cases e163
            replace hx163_0 := (HB.out.cell (bL w _ hx163_0)).trans hx163_0
            replace hx163_1 := (HB.out.cell (bL w _ hx163_1)).trans hx163_1
            replace hx163_2 := (HB.out.cell (bL w _ hx163_2)).trans hx163_2
            replace p163 := eq_true p163
            replace q163 := eq_true q163
            try go_wp2_with (first | ((with_reducible refine gD (N := 13) rfl ?_); refine bE ?hg (N := 13) ?hd (cs := #[.int .i64 0, .int .i64 0, .int .i64 0]) (t := 52) ?hr ?_; (case hd => rfl); (case hg => rfl); (case hr => first | (go_simp; done) | (go_simp; rfl)); intro gb164 hg w31 hbox hb; have n0_ := AM (Kd.R_below (by (with_reducible repeat (first | apply rA | apply rD | apply r1x)); exact HO_161002.out) hb); have n1_ := AM (kB (g := gb154) (o := .cells #[.slice A0_0 l0_0.length c0_0, .slice (some ad161) l0_1.length c0_1, .slice A0_2 l0_2.length c0_2, .int .i64 a0_3, .int .i64 a0_4] 26 (0, 0)) (kW BK154) hb); have n2_ := AM (kB (g := gb155) (o := .cells #[.int .i64 0, .int .i64 0, .slice none 0 0, .int .i64 0] 39 (0, 0)) (kW BK155) hb); have n3_ := AM (kB (g := gb160) (o := .cells #[.int .i64 t158, .int .i64 t159, u161002, .int .i64 x161003_1] 39 (0, 0)) (kW BK160) hb); have n4_ := AM (kB (g := gb162) (o := .cells #[.string ((rd_T43 l0_1 x34_1).f0), .int .i64 ((rd_T43 l0_1 x34_1).f1), .slice (some ad163) ((rd_T43 l0_1 x34_1).f2).length c161_2, .int .i64 ((rd_T43 l0_1 x34_1).f3), .int .i64 ((rd_T43 l0_1 x34_1).f4), .int .i64 ((rd_T43 l0_1 x34_1).f5)] 49 (0, 0)) (kW BK162) hb); have n5_ := AM (bT bQ hb); have n6_ := AM (hbox); have n7_ := AM ((by rw [hg]; exact (bZ bQ) : w.heap.size ≤ gb164)); have n8_ := AM ((by rw [hg]; exact (bZ bQ) : w.heap.size ≤ gb164)); have n9_ := AM ((by rw [hg]; exact Nat.ne_of_lt (blk_lt (g := gb154) (o := .cells #[.slice A0_0 l0_0.length c0_0, .slice (some ad161) l0_1.length c0_1, .slice A0_2 l0_2.length c0_2, .int .i64 a0_3, .int .i64 a0_4] 26 (0, 0)) (kW BK154)) : gb154 ≠ gb164)); have n10_ := AM ((by rw [hg]; exact Nat.ne_of_gt (blk_lt (g := gb154) (o := .cells #[.slice A0_0 l0_0.length c0_0, .slice (some ad161) l0_1.length c0_1, .slice A0_2 l0_2.length c0_2, .int .i64 a0_3, .int .i64 a0_4] 26 (0, 0)) (kW BK154)) : gb164 ≠ gb154)); have n11_ := AM ((by rw [hg]; exact Nat.ne_of_lt (blk_lt (g := gb155) (o := .cells #[.int .i64 0, .int .i64 0, .slice none 0 0, .int .i64 0] 39 (0, 0)) (kW BK155)) : gb155 ≠ gb164)); have n12_ := AM ((by rw [hg]; exact Nat.ne_of_gt (blk_lt (g := gb155) (o := .cells #[.int .i64 0, .int .i64 0, .slice none 0 0, .int .i64 0] 39 (0, 0)) (kW BK155)) : gb164 ≠ gb155)); have n13_ := AM ((by rw [hg]; exact Nat.ne_of_lt (blk_lt (g := gb160) (o := .cells #[.int .i64 t158, .int .i64 t159, u161002, .int .i64 x161003_1] 39 (0, 0)) (kW BK160)) : gb160 ≠ gb164)); have n14_ := AM ((by rw [hg]; exact Nat.ne_of_gt (blk_lt (g := gb160) (o := .cells #[.int .i64 t158, .int .i64 t159, u161002, .int .i64 x161003_1] 39 (0, 0)) (kW BK160)) : gb164 ≠ gb160)); have n15_ := AM ((by rw [hg]; exact Nat.ne_of_lt (blk_lt (g := gb162) (o := .cells #[.string ((rd_T43 l0_1 x34_1).f0), .int .i64 ((rd_T43 l0_1 x34_1).f1), .slice (some ad163) ((rd_T43 l0_1 x34_1).f2).length c161_2, .int .i64 ((rd_T43 l0_1 x34_1).f3), .int .i64 ((rd_T43 l0_1 x34_1).f4), .int .i64 ((rd_T43 l0_1 x34_1).f5)] 49 (0, 0)) (kW BK162)) : gb162 ≠ gb164)); have n16_ := AM ((by rw [hg]; exact Nat.ne_of_gt (blk_lt (g := gb162) (o := .cells #[.string ((rd_T43 l0_1 x34_1).f0), .int .i64 ((rd_T43 l0_1 x34_1).f1), .slice (some ad163) ((rd_T43 l0_1 x34_1).f2).length c161_2, .int .i64 ((rd_T43 l0_1 x34_1).f3), .int .i64 ((rd_T43 l0_1 x34_1).f4), .int .i64 ((rd_T43 l0_1 x34_1).f5)] 49 (0, 0)) (kW BK162)) : gb164 ≠ gb162)); clear HO_161002; clear BK154; clear BK155; clear BK160; clear BK162; clear HB; have HO_161002 := n0_; have BK154 := n1_; have BK155 := n2_; have BK160 := n3_; have BK162 := n4_; have HB := n5_; have BK164 := n6_; have GW164 := n7_; have GE164 := n8_; have NB154_164 := n9_; have NB164_154 := n10_; have NB155_164 := n11_; have NB164_155 := n12_; have NB160_164 := n13_; have NB164_160 := n14_; have NB162_164 := n15_; have NB164_162 := n16_; clear n0_ n1_ n2_ n3_ n4_ n5_ n6_ n7_ n8_ n9_ n10_ n11_ n12_ n13_ n14_ n15_ n16_; clear hb hbox hg; have hnb32 := NB164_154.out; have hnc32 := NB154_164.out; have hnb33 := NB164_155.out; have hnc33 := NB155_164.out; have hnb34 := NB164_160.out; have hnc34 := NB160_164.out; have hnb35 := NB164_162.out; have hnc35 := NB162_164.out; obtain ⟨_, _, _, _, _, _⟩ := bX3 BK164.out))
            have n0_ : Aside0 (Kd.R (Kd.int .i64) 3 (((w31.setCell ⟨gb164, 0, none⟩ (.int .i64 ((rd_T41 ((rd_T43 l0_1 x34_1).f2) x41_2).f0))).setCell ⟨gb164, 1, none⟩ (.int .i64 ((rd_T41 ((rd_T43 l0_1 x34_1).f2) x41_2).f1))).setCell ⟨gb164, 2, none⟩ (.int .i64 ((rd_T41 ((rd_T43 l0_1 x34_1).f2) x41_2).f2))) w.heap.size (fun _ => True) u161002 x161002_1) := ⟨by (with_reducible repeat (first | apply rA | apply rD | apply r1x)); exact Kd.R_mono (Kd.R_far (p := ⟨gb164, 2, none⟩) (Kd.R_far (p := ⟨gb164, 1, none⟩) (Kd.R_far (p := ⟨gb164, 0, none⟩) (Kd.R_types HO_161002.out BK164.out (by decide)) (fun _ hk => hk.2) (.int .i64 ((rd_T41 ((rd_T43 l0_1 x34_1).f2) x41_2).f0))) (fun _ hk => hk.2) (.int .i64 ((rd_T41 ((rd_T43 l0_1 x34_1).f2) x41_2).f1))) (fun _ hk => hk.2) (.int .i64 ((rd_T41 ((rd_T43 l0_1 x34_1).f2) x41_2).f2))) (fun _ hk => trivial)⟩
            have n1_ : Aside0 ((((w31.setCell ⟨gb164, 0, none⟩ (.int .i64 ((rd_T41 ((rd_T43 l0_1 x34_1).f2) x41_2).f0))).setCell ⟨gb164, 1, none⟩ (.int .i64 ((rd_T41 ((rd_T43 l0_1 x34_1).f2) x41_2).f1))).setCell ⟨gb164, 2, none⟩ (.int .i64 ((rd_T41 ((rd_T43 l0_1 x34_1).f2) x41_2).f2))).heap[gb154]? = some (.cells #[.slice A0_0 l0_0.length c0_0, .slice (some ad161) l0_1.length c0_1, .slice A0_2 l0_2.length c0_2, .int .i64 a0_3, .int .i64 a0_4] 26 (0, 0))) := ⟨by (with_reducible repeat (first | refine kD ?_ _ | refine k1_ ?_ | refine kA ?_ _)); refine kF ?_ NB154_164.out _; (with_reducible repeat (first | refine kD ?_ _ | refine k1_ ?_ | refine kA ?_ _)); refine kF ?_ NB154_164.out _; (with_reducible repeat (first | refine kD ?_ _ | refine k1_ ?_ | refine kA ?_ _)); refine kF ?_ NB154_164.out _; (with_reducible repeat (first | refine kD ?_ _ | refine k1_ ?_ | refine kA ?_ _)); exact BK154.out⟩
            have n2_ : Aside0 ((((w31.setCell ⟨gb164, 0, none⟩ (.int .i64 ((rd_T41 ((rd_T43 l0_1 x34_1).f2) x41_2).f0))).setCell ⟨gb164, 1, none⟩ (.int .i64 ((rd_T41 ((rd_T43 l0_1 x34_1).f2) x41_2).f1))).setCell ⟨gb164, 2, none⟩ (.int .i64 ((rd_T41 ((rd_T43 l0_1 x34_1).f2) x41_2).f2))).heap[gb155]? = some (.cells #[.int .i64 0, .int .i64 0, .slice none 0 0, .int .i64 0] 39 (0, 0))) := ⟨by (with_reducible repeat (first | refine kD ?_ _ | refine k1_ ?_ | refine kA ?_ _)); refine kF ?_ NB155_164.out _; (with_reducible repeat (first | refine kD ?_ _ | refine k1_ ?_ | refine kA ?_ _)); refine kF ?_ NB155_164.out _; (with_reducible repeat (first | refine kD ?_ _ | refine k1_ ?_ | refine kA ?_ _)); refine kF ?_ NB155_164.out _; (with_reducible repeat (first | refine kD ?_ _ | refine k1_ ?_ | refine kA ?_ _)); exact BK155.out⟩
            have n3_ : Aside0 ((((w31.setCell ⟨gb164, 0, none⟩ (.int .i64 ((rd_T41 ((rd_T43 l0_1 x34_1).f2) x41_2).f0))).setCell ⟨gb164, 1, none⟩ (.int .i64 ((rd_T41 ((rd_T43 l0_1 x34_1).f2) x41_2).f1))).setCell ⟨gb164, 2, none⟩ (.int .i64 ((rd_T41 ((rd_T43 l0_1 x34_1).f2) x41_2).f2))).heap[gb160]? = some (.cells #[.int .i64 t158, .int .i64 t159, u161002, .int .i64 x161003_1] 39 (0, 0))) := ⟨by (with_reducible repeat (first | refine kD ?_ _ | refine k1_ ?_ | refine kA ?_ _)); refine kF ?_ NB160_164.out _; (with_reducible repeat (first | refine kD ?_ _ | refine k1_ ?_ | refine kA ?_ _)); refine kF ?_ NB160_164.out _; (with_reducible repeat (first | refine kD ?_ _ | refine k1_ ?_ | refine kA ?_ _)); refine kF ?_ NB160_164.out _; (with_reducible repeat (first | refine kD ?_ _ | refine k1_ ?_ | refine kA ?_ _)); exact BK160.out⟩
            have n4_ : Aside0 ((((w31.setCell ⟨gb164, 0, none⟩ (.int .i64 ((rd_T41 ((rd_T43 l0_1 x34_1).f2) x41_2).f0))).setCell ⟨gb164, 1, none⟩ (.int .i64 ((rd_T41 ((rd_T43 l0_1 x34_1).f2) x41_2).f1))).setCell ⟨gb164, 2, none⟩ (.int .i64 ((rd_T41 ((rd_T43 l0_1 x34_1).f2) x41_2).f2))).heap[gb162]? = some (.cells #[.string ((rd_T43 l0_1 x34_1).f0), .int .i64 ((rd_T43 l0_1 x34_1).f1), .slice (some ad163) ((rd_T43 l0_1 x34_1).f2).length c161_2, .int .i64 ((rd_T43 l0_1 x34_1).f3), .int .i64 ((rd_T43 l0_1 x34_1).f4), .int .i64 ((rd_T43 l0_1 x34_1).f5)] 49 (0, 0))) := ⟨by (with_reducible repeat (first | refine kD ?_ _ | refine k1_ ?_ | refine kA ?_ _)); refine kF ?_ NB162_164.out _; (with_reducible repeat (first | refine kD ?_ _ | refine k1_ ?_ | refine kA ?_ _)); refine kF ?_ NB162_164.out _; (with_reducible repeat (first | refine kD ?_ _ | refine k1_ ?_ | refine kA ?_ _)); refine kF ?_ NB162_164.out _; (with_reducible repeat (first | refine kD ?_ _ | refine k1_ ?_ | refine kA ?_ _)); exact BK162.out⟩
            have n5_ : Aside0 ((((w31.setCell ⟨gb164, 0, none⟩ (.int .i64 ((rd_T41 ((rd_T43 l0_1 x34_1).f2) x41_2).f0))).setCell ⟨gb164, 1, none⟩ (.int .i64 ((rd_T41 ((rd_T43 l0_1 x34_1).f2) x41_2).f1))).setCell ⟨gb164, 2, none⟩ (.int .i64 ((rd_T41 ((rd_T43 l0_1 x34_1).f2) x41_2).f2))).heap[gb164]? = some (.cells #[.int .i64 ((rd_T41 ((rd_T43 l0_1 x34_1).f2) x41_2).f0), .int .i64 ((rd_T41 ((rd_T43 l0_1 x34_1).f2) x41_2).f1), .int .i64 ((rd_T41 ((rd_T43 l0_1 x34_1).f2) x41_2).f2)] 52 (0, 0))) := ⟨by (with_reducible repeat (first | refine kD ?_ _ | refine k1_ ?_ | refine kA ?_ _)); refine kP (cs := #[.int .i64 ((rd_T41 ((rd_T43 l0_1 x34_1).f2) x41_2).f0), .int .i64 ((rd_T41 ((rd_T43 l0_1 x34_1).f2) x41_2).f1), .int .i64 0]) ?_ 2 _ rfl; (with_reducible repeat (first | refine kD ?_ _ | refine k1_ ?_ | refine kA ?_ _)); refine kP (cs := #[.int .i64 ((rd_T41 ((rd_T43 l0_1 x34_1).f2) x41_2).f0), .int .i64 0, .int .i64 0]) ?_ 1 _ rfl; (with_reducible repeat (first | refine kD ?_ _ | refine k1_ ?_ | refine kA ?_ _)); refine kP (cs := #[.int .i64 0, .int .i64 0, .int .i64 0]) ?_ 0 _ rfl; (with_reducible repeat (first | refine kD ?_ _ | refine k1_ ?_ | refine kA ?_ _)); exact BK164.out⟩
            have n6_ : Aside0 (Below w.heap.size w (((w31.setCell ⟨gb164, 0, none⟩ (.int .i64 ((rd_T41 ((rd_T43 l0_1 x34_1).f2) x41_2).f0))).setCell ⟨gb164, 1, none⟩ (.int .i64 ((rd_T41 ((rd_T43 l0_1 x34_1).f2) x41_2).f1))).setCell ⟨gb164, 2, none⟩ (.int .i64 ((rd_T41 ((rd_T43 l0_1 x34_1).f2) x41_2).f2)))) := ⟨by repeat (first | (with_reducible first | exact HB.out | apply bA | apply bD | apply b1 | refine bS ?_ GE154.out | refine bS ?_ GE155.out | refine bS ?_ GE160.out | refine bS ?_ GE162.out | refine bS ?_ GE164.out) | exact HB.out)⟩
            (try clear HO_161002)
            (try clear BK154)
            (try clear BK155)
            (try clear BK160)
            (try clear BK162)
            (try clear BK164)
            (try clear HB)
            generalize (((w31.setCell ⟨gb164, 0, none⟩ (.int .i64 ((rd_T41 ((rd_T43 l0_1 x34_1).f2) x41_2).f0))).setCell ⟨gb164, 1, none⟩ (.int .i64 ((rd_T41 ((rd_T43 l0_1 x34_1).f2) x41_2).f1))).setCell ⟨gb164, 2, none⟩ (.int .i64 ((rd_T41 ((rd_T43 l0_1 x34_1).f2) x41_2).f2))) = w37 at n0_ n1_ n2_ n3_ n4_ n5_ n6_ ⊢
            have HO_161002 := n0_
            have BK154 := n1_
            have BK155 := n2_
            have BK160 := n3_
            have BK162 := n4_
            have BK164 := n5_
            have HB := n6_
            clear n0_ n1_ n2_ n3_ n4_ n5_ n6_
            have n0_ := AM (r1x HO_161002.out)
            have n1_ := AM (k1_ BK154.out)
            have n2_ := AM (k1_ BK155.out)
            have n3_ := AM (k1_ BK160.out)
            have n4_ := AM (k1_ BK162.out)
            have n5_ := AM (k1_ BK164.out)
            have n6_ := AM (b1 HB.out)
            clear HO_161002
            clear BK154
            clear BK155
            clear BK160
            clear BK162
            clear BK164
            clear HB
            have HO_161002 := n0_
            have BK154 := n1_
            have BK155 := n2_
            have BK160 := n3_
            have BK162 := n4_
            have BK164 := n5_
            have HB := n6_
            clear n0_ n1_ n2_ n3_ n4_ n5_ n6_
            have p165 : 0 ≤ (x11_2 : Int) := of_decide_eq_true (by first | (with_reducible assumption) | assumption)
            have q165 : x11_2 < (((rd_T43 l0_1 x34_1).f2).length : Int) := of_decide_eq_true (by first | (with_reducible assumption) | assumption)
            obtain ⟨ad165, e165, hx165_0, hx165_1, hx165_2⟩ := at_T41 HR161_2.out x11_2 p165 q165
            have hw165_2 := hx165_2
            have hw165_1 := hx165_1
            have hw165_0 := hx165_0
            obtain rfl : ad163 = ad165 := (by injection e165)
            replace hx165_0 := (HB.out.cell (bL w _ hx165_0)).trans hx165_0
            replace hx165_1 := (HB.out.cell (bL w _ hx165_1)).trans hx165_1
            replace hx165_2 := (HB.out.cell (bL w _ hx165_2)).trans hx165_2
            replace p165 := eq_true p165
            replace q165 := eq_true q165
            refine start_ (n := 9) (S := fun w' => w'.cell? ⟨gb164, 0, none⟩ = some (.int .i64 ((rd_T41 ((rd_T43 l0_1 x34_1).f2) x41_2).f0)) ∧ w'.cell? ⟨gb164, 1, none⟩ = some (.int .i64 ((rd_T41 ((rd_T43 l0_1 x34_1).f2) x41_2).f1)) ∧ w'.cell? ⟨gb164, 2, none⟩ = some (.int .i64 ((rd_T41 ((rd_T43 l0_1 x34_1).f2) x41_2).f2)) ∧ w'.cell? ⟨gb162, 0, none⟩ = some (.string ((rd_T43 l0_1 x34_1).f0)) ∧ w'.cell? ⟨gb162, 1, none⟩ = some (.int .i64 ((rd_T43 l0_1 x34_1).f1)) ∧ w'.cell? ⟨gb162, 2, none⟩ = some (.slice (some ad163) ((rd_T43 l0_1 x34_1).f2).length c161_2) ∧ w'.cell? ⟨gb162, 3, none⟩ = some (.int .i64 ((rd_T43 l0_1 x34_1).f3)) ∧ w'.cell? ⟨gb162, 4, none⟩ = some (.int .i64 ((rd_T43 l0_1 x34_1).f4)) ∧ w'.cell? ⟨gb162, 5, none⟩ = some (.int .i64 ((rd_T43 l0_1 x34_1).f5)) ∧ w'.cell? (ad163.add ((x11_2).toNat * 3)) = some (.int .i64 ((rd_T41 ((rd_T43 l0_1 x34_1).f2) x11_2).f0)) ∧ w'.cell? ⟨(ad163.add ((x11_2).toNat * 3)).block, (ad163.add ((x11_2).toNat * 3)).off + 1, none⟩ = some (.int .i64 ((rd_T41 ((rd_T43 l0_1 x34_1).f2) x11_2).f1)) ∧ w'.cell? ⟨(ad163.add ((x11_2).toNat * 3)).block, (ad163.add ((x11_2).toNat * 3)).off + 2, none⟩ = some (.int .i64 ((rd_T41 ((rd_T43 l0_1 x34_1).f2) x11_2).f2))) (ds := []) #[false, false, false, false, false, false, false, false, false] (by kernel_rfl) rfl rfl ⟨(bC BK164.out 0).trans rfl, (bC BK164.out 1).trans rfl, (bC BK164.out 2).trans rfl, (bC BK162.out 0).trans rfl, (bC BK162.out 1).trans rfl, (bC BK162.out 2).trans rfl, (bC BK162.out 3).trans rfl, (bC BK162.out 4).trans rfl, (bC BK162.out 5).trans rfl, ((HB.out.cell (bL w _ hw165_0)).trans hw165_0), ((HB.out.cell (bL w _ hw165_1)).trans hw165_1), ((HB.out.cell (bL w _ hw165_2)).trans hw165_2)⟩ (fun hHeld => ?_); refine with_tabW keep_Worst.tab13 keep_Worst.bits13 (fun HT_ HW_ => ?_)
            generalize w37.drew = w38 at HO_161002 BK154 BK155 BK160 BK162 BK164 HB hx165_0 hx165_1 hx165_2 hHeld ⊢
            refine pure_ (i := 0) (N := some 46) (v := ?_) (a' := ?_) #[true, false, false, false, false, false, false, false, false] rfl rfl (any_of HT_.out (by kernel_rfl)) (fun _ _ _ h => h) (Or.inl ⟨by rfl, ?_⟩) ?_ ?_
            rotate_left
            · intro w'
              go_simp
              with_reducible rfl
            rotate_left
            · simp only [Act.put, List.setIfInBounds_toArray, List.set_cons_zero, List.set_cons_succ, i64_w, i32_w]
              rfl
            refine pure_ (i := 2) (N := some 48) (v := ?_) (a' := ?_) #[true, false, true, false, false, false, false, false, false] rfl rfl (any_of HT_.out (by kernel_rfl)) (fun _ _ _ h => h) (Or.inl ⟨by rfl, ?_⟩) ?_ ?_
            rotate_left
            · intro w'
              go_simp
              with_reducible rfl
            rotate_left
            · simp only [Act.put, List.setIfInBounds_toArray, List.set_cons_zero, List.set_cons_succ, i64_w, i32_w]
              rfl
            refine pure_ (i := 4) (N := some 50) (v := ?_) (a' := ?_) #[true, false, true, false, true, false, false, false, false] rfl rfl (any_of HT_.out (by kernel_rfl)) (fun _ _ _ h => h) (Or.inl ⟨by rfl, ?_⟩) ?_ ?_
            rotate_left
            · intro w'
              go_simp
              with_reducible rfl
            rotate_left
            · simp only [Act.put, List.setIfInBounds_toArray, List.set_cons_zero, List.set_cons_succ, i64_w, i32_w]
              rfl
            refine take_ (i := 1) (N := some 47) (v := ?_) (a' := ?_) #[true, true, true, false, true, false, false, false, false] rfl rfl (take_ofW HT_.out HW_.out (by kernel_rfl)) (fun _ _ _ h => h) (Or.inl ⟨by rfl, ?_⟩) hHeld ?_ ?_
            rotate_left
            · rintro w' ⟨s0, s1, s2, s3, s4, s5, s6, s7, s8, s9, s10, s11⟩
              go_simp
              with_reducible rfl
            rotate_left
            · simp only [Act.put, List.setIfInBounds_toArray, List.set_cons_zero, List.set_cons_succ, i64_w, i32_w]
              rfl
            refine take_ (i := 3) (N := some 49) (v := ?_) (a' := ?_) #[true, true, true, true, true, false, false, false, false] rfl rfl (take_ofW HT_.out HW_.out (by kernel_rfl)) (fun _ _ _ h => h) (Or.inl ⟨by rfl, ?_⟩) hHeld ?_ ?_
            rotate_left
            · rintro w' ⟨s0, s1, s2, s3, s4, s5, s6, s7, s8, s9, s10, s11⟩
              go_simp
              with_reducible rfl
            rotate_left
            · simp only [Act.put, List.setIfInBounds_toArray, List.set_cons_zero, List.set_cons_succ, i64_w, i32_w]
              rfl
            refine pure_ (i := 5) (N := some 51) (v := ?_) (a' := ?_) #[true, true, true, true, true, true, false, false, false] rfl rfl (any_of HT_.out (by kernel_rfl)) (fun _ _ _ h => h) (Or.inl ⟨by rfl, ?_⟩) ?_ ?_
            rotate_left
            · intro w'
              go_simp
              with_reducible rfl
            rotate_left
            · simp only [Act.put, List.setIfInBounds_toArray, List.set_cons_zero, List.set_cons_succ, i64_w, i32_w]
              rfl
            refine pure_ (i := 6) (N := some 52) (v := ?_) (a' := ?_) #[true, true, true, true, true, true, true, false, false] rfl rfl (any_of HT_.out (by kernel_rfl)) (fun _ _ _ h => h) (Or.inl ⟨by rfl, ?_⟩) ?_ ?_
            rotate_left
            · intro w'
              go_simp
              with_reducible rfl
            rotate_left
            · simp only [Act.put, List.setIfInBounds_toArray, List.set_cons_zero, List.set_cons_succ, i64_w, i32_w]
              rfl
            refine take_ (i := 7) (N := some 53) (v := ?_) (a' := ?_) #[true, true, true, true, true, true, true, true, false] rfl rfl (take_ofW HT_.out HW_.out (by kernel_rfl)) (fun _ _ _ h => h) (Or.inl ⟨by rfl, ?_⟩) hHeld ?_ ?_
            rotate_left
            · rintro w' ⟨s0, s1, s2, s3, s4, s5, s6, s7, s8, s9, s10, s11⟩
              go_simp
              with_reducible rfl
            rotate_left
            · simp only [Act.put, List.setIfInBounds_toArray, List.set_cons_zero, List.set_cons_succ, i64_w, i32_w]
              rfl
            refine pure_ (i := 8) (N := some 54) (v := ?_) (a' := ?_) #[true, true, true, true, true, true, true, true, true] rfl rfl (any_of HT_.out (by kernel_rfl)) (fun _ _ _ h => h) (Or.inl ⟨by rfl, ?_⟩) ?_ ?_
            rotate_left
            · intro w'
              go_simp
              with_reducible rfl
            rotate_left
            · simp only [Act.put, List.setIfInBounds_toArray, List.set_cons_zero, List.set_cons_succ, i64_w, i32_w]
              rfl
            refine done_ (done_of HT_.out (by kernel_rfl)) ?_
            try go_wp2
            go_roundg k2
            case measure => have := HK1.out; have := HK2.out; omega
            case rel => exact ⟨(x41_2), (wrap64 (x41_2 + 1)), (by first | rfl | (simp; done) | (simp [*]; done)), (by first | rfl | (simp; done) | (simp [*]; done)), H', ⟨by have := HK1.out; have := HK2.out; omega⟩, ⟨by (with_reducible repeat (first | apply rA | apply rD | apply r1x)); exact HO_161002.out⟩, ⟨by (with_reducible repeat (first | refine kD ?_ _ | refine k1_ ?_ | refine kA ?_ _)); exact BK154.out⟩, ⟨by (with_reducible repeat (first | refine kD ?_ _ | refine k1_ ?_ | refine kA ?_ _)); exact BK155.out⟩, ⟨by (with_reducible repeat (first | refine kD ?_ _ | refine k1_ ?_ | refine kA ?_ _)); exact BK160.out⟩, ⟨by (with_reducible repeat (first | refine kD ?_ _ | refine k1_ ?_ | refine kA ?_ _)); exact BK162.out⟩, ⟨by repeat (first | (with_reducible first | exact HB.out | apply bA | apply bD | apply b1 | refine bS ?_ GE154.out | refine bS ?_ GE155.out | refine bS ?_ GE160.out | refine bS ?_ GE162.out | refine bS ?_ GE164.out) | exact HB.out)⟩⟩
          rw [if_neg c30] at H
          have c30b0 := decide_eq_false c30
          clear c30
          have H' := AM H
          clear H
          have p163 : 0 ≤ (x41_2 : Int) := of_decide_eq_true (by first | (with_reducible assumption) | assumption)
          have q163 : x41_2 < (((rd_T43 l0_1 x34_1).f2).length : Int) := of_decide_eq_true (by first | (with_reducible assumption) | assumption)
          obtain ⟨ad163, e163, hx163_0, hx163_1, hx163_2⟩ := at_T41 HR161_2.out x41_2 p163 q163
          cases e163
          replace hx163_0 := (HB.out.cell (bL w _ hx163_0)).trans hx163_0
          replace hx163_1 := (HB.out.cell (bL w _ hx163_1)).trans hx163_1
          replace hx163_2 := (HB.out.cell (bL w _ hx163_2)).trans hx163_2
          replace p163 := eq_true p163
          replace q163 := eq_true q163
          try go_wp2_with (first | ((with_reducible refine gD (N := 13) rfl ?_); refine bE ?hg (N := 13) ?hd (cs := #[.int .i64 0, .int .i64 0, .int .i64 0]) (t := 52) ?hr ?_; (case hd => rfl); (case hg => rfl); (case hr => first | (go_simp; done) | (go_simp; rfl)); intro gb164 hg w39 hbox hb; have n0_ := AM (Kd.R_below (by (with_reducible repeat (first | apply rA | apply rD | apply r1x)); exact HO_161002.out) hb); have n1_ := AM (kB (g := gb154) (o := .cells #[.slice A0_0 l0_0.length c0_0, .slice (some ad161) l0_1.length c0_1, .slice A0_2 l0_2.length c0_2, .int .i64 a0_3, .int .i64 a0_4] 26 (0, 0)) (kW BK154) hb); have n2_ := AM (kB (g := gb155) (o := .cells #[.int .i64 0, .int .i64 0, .slice none 0 0, .int .i64 0] 39 (0, 0)) (kW BK155) hb); have n3_ := AM (kB (g := gb160) (o := .cells #[.int .i64 t158, .int .i64 t159, u161002, .int .i64 x161003_1] 39 (0, 0)) (kW BK160) hb); have n4_ := AM (kB (g := gb162) (o := .cells #[.string ((rd_T43 l0_1 x34_1).f0), .int .i64 ((rd_T43 l0_1 x34_1).f1), .slice (some ad163) ((rd_T43 l0_1 x34_1).f2).length c161_2, .int .i64 ((rd_T43 l0_1 x34_1).f3), .int .i64 ((rd_T43 l0_1 x34_1).f4), .int .i64 ((rd_T43 l0_1 x34_1).f5)] 49 (0, 0)) (kW BK162) hb); have n5_ := AM (bT bQ hb); have n6_ := AM (hbox); have n7_ := AM ((by rw [hg]; exact (bZ bQ) : w.heap.size ≤ gb164)); have n8_ := AM ((by rw [hg]; exact (bZ bQ) : w.heap.size ≤ gb164)); have n9_ := AM ((by rw [hg]; exact Nat.ne_of_lt (blk_lt (g := gb154) (o := .cells #[.slice A0_0 l0_0.length c0_0, .slice (some ad161) l0_1.length c0_1, .slice A0_2 l0_2.length c0_2, .int .i64 a0_3, .int .i64 a0_4] 26 (0, 0)) (kW BK154)) : gb154 ≠ gb164)); have n10_ := AM ((by rw [hg]; exact Nat.ne_of_gt (blk_lt (g := gb154) (o := .cells #[.slice A0_0 l0_0.length c0_0, .slice (some ad161) l0_1.length c0_1, .slice A0_2 l0_2.length c0_2, .int .i64 a0_3, .int .i64 a0_4] 26 (0, 0)) (kW BK154)) : gb164 ≠ gb154)); have n11_ := AM ((by rw [hg]; exact Nat.ne_of_lt (blk_lt (g := gb155) (o := .cells #[.int .i64 0, .int .i64 0, .slice none 0 0, .int .i64 0] 39 (0, 0)) (kW BK155)) : gb155 ≠ gb164)); have n12_ := AM ((by rw [hg]; exact Nat.ne_of_gt (blk_lt (g := gb155) (o := .cells #[.int .i64 0, .int .i64 0, .slice none 0 0, .int .i64 0] 39 (0, 0)) (kW BK155)) : gb164 ≠ gb155)); have n13_ := AM ((by rw [hg]; exact Nat.ne_of_lt (blk_lt (g := gb160) (o := .cells #[.int .i64 t158, .int .i64 t159, u161002, .int .i64 x161003_1] 39 (0, 0)) (kW BK160)) : gb160 ≠ gb164)); have n14_ := AM ((by rw [hg]; exact Nat.ne_of_gt (blk_lt (g := gb160) (o := .cells #[.int .i64 t158, .int .i64 t159, u161002, .int .i64 x161003_1] 39 (0, 0)) (kW BK160)) : gb164 ≠ gb160)); have n15_ := AM ((by rw [hg]; exact Nat.ne_of_lt (blk_lt (g := gb162) (o := .cells #[.string ((rd_T43 l0_1 x34_1).f0), .int .i64 ((rd_T43 l0_1 x34_1).f1), .slice (some ad163) ((rd_T43 l0_1 x34_1).f2).length c161_2, .int .i64 ((rd_T43 l0_1 x34_1).f3), .int .i64 ((rd_T43 l0_1 x34_1).f4), .int .i64 ((rd_T43 l0_1 x34_1).f5)] 49 (0, 0)) (kW BK162)) : gb162 ≠ gb164)); have n16_ := AM ((by rw [hg]; exact Nat.ne_of_gt (blk_lt (g := gb162) (o := .cells #[.string ((rd_T43 l0_1 x34_1).f0), .int .i64 ((rd_T43 l0_1 x34_1).f1), .slice (some ad163) ((rd_T43 l0_1 x34_1).f2).length c161_2, .int .i64 ((rd_T43 l0_1 x34_1).f3), .int .i64 ((rd_T43 l0_1 x34_1).f4), .int .i64 ((rd_T43 l0_1 x34_1).f5)] 49 (0, 0)) (kW BK162)) : gb164 ≠ gb162)); clear HO_161002; clear BK154; clear BK155; clear BK160; clear BK162; clear HB; have HO_161002 := n0_; have BK154 := n1_; have BK155 := n2_; have BK160 := n3_; have BK162 := n4_; have HB := n5_; have BK164 := n6_; have GW164 := n7_; have GE164 := n8_; have NB154_164 := n9_; have NB164_154 := n10_; have NB155_164 := n11_; have NB164_155 := n12_; have NB160_164 := n13_; have NB164_160 := n14_; have NB162_164 := n15_; have NB164_162 := n16_; clear n0_ n1_ n2_ n3_ n4_ n5_ n6_ n7_ n8_ n9_ n10_ n11_ n12_ n13_ n14_ n15_ n16_; clear hb hbox hg; have hnb40 := NB164_154.out; have hnc40 := NB154_164.out; have hnb41 := NB164_155.out; have hnc41 := NB155_164.out; have hnb42 := NB164_160.out; have hnc42 := NB160_164.out; have hnb43 := NB164_162.out; have hnc43 := NB162_164.out; obtain ⟨_, _, _, _, _, _⟩ := bX3 BK164.out))
          have n0_ : Aside0 (Kd.R (Kd.int .i64) 3 (((w39.setCell ⟨gb164, 0, none⟩ (.int .i64 ((rd_T41 ((rd_T43 l0_1 x34_1).f2) x41_2).f0))).setCell ⟨gb164, 1, none⟩ (.int .i64 ((rd_T41 ((rd_T43 l0_1 x34_1).f2) x41_2).f1))).setCell ⟨gb164, 2, none⟩ (.int .i64 ((rd_T41 ((rd_T43 l0_1 x34_1).f2) x41_2).f2))) w.heap.size (fun _ => True) u161002 x161002_1) := ⟨by (with_reducible repeat (first | apply rA | apply rD | apply r1x)); exact Kd.R_mono (Kd.R_far (p := ⟨gb164, 2, none⟩) (Kd.R_far (p := ⟨gb164, 1, none⟩) (Kd.R_far (p := ⟨gb164, 0, none⟩) (Kd.R_types HO_161002.out BK164.out (by decide)) (fun _ hk => hk.2) (.int .i64 ((rd_T41 ((rd_T43 l0_1 x34_1).f2) x41_2).f0))) (fun _ hk => hk.2) (.int .i64 ((rd_T41 ((rd_T43 l0_1 x34_1).f2) x41_2).f1))) (fun _ hk => hk.2) (.int .i64 ((rd_T41 ((rd_T43 l0_1 x34_1).f2) x41_2).f2))) (fun _ hk => trivial)⟩
          have n1_ : Aside0 ((((w39.setCell ⟨gb164, 0, none⟩ (.int .i64 ((rd_T41 ((rd_T43 l0_1 x34_1).f2) x41_2).f0))).setCell ⟨gb164, 1, none⟩ (.int .i64 ((rd_T41 ((rd_T43 l0_1 x34_1).f2) x41_2).f1))).setCell ⟨gb164, 2, none⟩ (.int .i64 ((rd_T41 ((rd_T43 l0_1 x34_1).f2) x41_2).f2))).heap[gb154]? = some (.cells #[.slice A0_0 l0_0.length c0_0, .slice (some ad161) l0_1.length c0_1, .slice A0_2 l0_2.length c0_2, .int .i64 a0_3, .int .i64 a0_4] 26 (0, 0))) := ⟨by (with_reducible repeat (first | refine kD ?_ _ | refine k1_ ?_ | refine kA ?_ _)); refine kF ?_ NB154_164.out _; (with_reducible repeat (first | refine kD ?_ _ | refine k1_ ?_ | refine kA ?_ _)); refine kF ?_ NB154_164.out _; (with_reducible repeat (first | refine kD ?_ _ | refine k1_ ?_ | refine kA ?_ _)); refine kF ?_ NB154_164.out _; (with_reducible repeat (first | refine kD ?_ _ | refine k1_ ?_ | refine kA ?_ _)); exact BK154.out⟩
          have n2_ : Aside0 ((((w39.setCell ⟨gb164, 0, none⟩ (.int .i64 ((rd_T41 ((rd_T43 l0_1 x34_1).f2) x41_2).f0))).setCell ⟨gb164, 1, none⟩ (.int .i64 ((rd_T41 ((rd_T43 l0_1 x34_1).f2) x41_2).f1))).setCell ⟨gb164, 2, none⟩ (.int .i64 ((rd_T41 ((rd_T43 l0_1 x34_1).f2) x41_2).f2))).heap[gb155]? = some (.cells #[.int .i64 0, .int .i64 0, .slice none 0 0, .int .i64 0] 39 (0, 0))) := ⟨by (with_reducible repeat (first | refine kD ?_ _ | refine k1_ ?_ | refine kA ?_ _)); refine kF ?_ NB155_164.out _; (with_reducible repeat (first | refine kD ?_ _ | refine k1_ ?_ | refine kA ?_ _)); refine kF ?_ NB155_164.out _; (with_reducible repeat (first | refine kD ?_ _ | refine k1_ ?_ | refine kA ?_ _)); refine kF ?_ NB155_164.out _; (with_reducible repeat (first | refine kD ?_ _ | refine k1_ ?_ | refine kA ?_ _)); exact BK155.out⟩
          have n3_ : Aside0 ((((w39.setCell ⟨gb164, 0, none⟩ (.int .i64 ((rd_T41 ((rd_T43 l0_1 x34_1).f2) x41_2).f0))).setCell ⟨gb164, 1, none⟩ (.int .i64 ((rd_T41 ((rd_T43 l0_1 x34_1).f2) x41_2).f1))).setCell ⟨gb164, 2, none⟩ (.int .i64 ((rd_T41 ((rd_T43 l0_1 x34_1).f2) x41_2).f2))).heap[gb160]? = some (.cells #[.int .i64 t158, .int .i64 t159, u161002, .int .i64 x161003_1] 39 (0, 0))) := ⟨by (with_reducible repeat (first | refine kD ?_ _ | refine k1_ ?_ | refine kA ?_ _)); refine kF ?_ NB160_164.out _; (with_reducible repeat (first | refine kD ?_ _ | refine k1_ ?_ | refine kA ?_ _)); refine kF ?_ NB160_164.out _; (with_reducible repeat (first | refine kD ?_ _ | refine k1_ ?_ | refine kA ?_ _)); refine kF ?_ NB160_164.out _; (with_reducible repeat (first | refine kD ?_ _ | refine k1_ ?_ | refine kA ?_ _)); exact BK160.out⟩
          have n4_ : Aside0 ((((w39.setCell ⟨gb164, 0, none⟩ (.int .i64 ((rd_T41 ((rd_T43 l0_1 x34_1).f2) x41_2).f0))).setCell ⟨gb164, 1, none⟩ (.int .i64 ((rd_T41 ((rd_T43 l0_1 x34_1).f2) x41_2).f1))).setCell ⟨gb164, 2, none⟩ (.int .i64 ((rd_T41 ((rd_T43 l0_1 x34_1).f2) x41_2).f2))).heap[gb162]? = some (.cells #[.string ((rd_T43 l0_1 x34_1).f0), .int .i64 ((rd_T43 l0_1 x34_1).f1), .slice (some ad163) ((rd_T43 l0_1 x34_1).f2).length c161_2, .int .i64 ((rd_T43 l0_1 x34_1).f3), .int .i64 ((rd_T43 l0_1 x34_1).f4), .int .i64 ((rd_T43 l0_1 x34_1).f5)] 49 (0, 0))) := ⟨by (with_reducible repeat (first | refine kD ?_ _ | refine k1_ ?_ | refine kA ?_ _)); refine kF ?_ NB162_164.out _; (with_reducible repeat (first | refine kD ?_ _ | refine k1_ ?_ | refine kA ?_ _)); refine kF ?_ NB162_164.out _; (with_reducible repeat (first | refine kD ?_ _ | refine k1_ ?_ | refine kA ?_ _)); refine kF ?_ NB162_164.out _; (with_reducible repeat (first | refine kD ?_ _ | refine k1_ ?_ | refine kA ?_ _)); exact BK162.out⟩
          have n5_ : Aside0 ((((w39.setCell ⟨gb164, 0, none⟩ (.int .i64 ((rd_T41 ((rd_T43 l0_1 x34_1).f2) x41_2).f0))).setCell ⟨gb164, 1, none⟩ (.int .i64 ((rd_T41 ((rd_T43 l0_1 x34_1).f2) x41_2).f1))).setCell ⟨gb164, 2, none⟩ (.int .i64 ((rd_T41 ((rd_T43 l0_1 x34_1).f2) x41_2).f2))).heap[gb164]? = some (.cells #[.int .i64 ((rd_T41 ((rd_T43 l0_1 x34_1).f2) x41_2).f0), .int .i64 ((rd_T41 ((rd_T43 l0_1 x34_1).f2) x41_2).f1), .int .i64 ((rd_T41 ((rd_T43 l0_1 x34_1).f2) x41_2).f2)] 52 (0, 0))) := ⟨by (with_reducible repeat (first | refine kD ?_ _ | refine k1_ ?_ | refine kA ?_ _)); refine kP (cs := #[.int .i64 ((rd_T41 ((rd_T43 l0_1 x34_1).f2) x41_2).f0), .int .i64 ((rd_T41 ((rd_T43 l0_1 x34_1).f2) x41_2).f1), .int .i64 0]) ?_ 2 _ rfl; (with_reducible repeat (first | refine kD ?_ _ | refine k1_ ?_ | refine kA ?_ _)); refine kP (cs := #[.int .i64 ((rd_T41 ((rd_T43 l0_1 x34_1).f2) x41_2).f0), .int .i64 0, .int .i64 0]) ?_ 1 _ rfl; (with_reducible repeat (first | refine kD ?_ _ | refine k1_ ?_ | refine kA ?_ _)); refine kP (cs := #[.int .i64 0, .int .i64 0, .int .i64 0]) ?_ 0 _ rfl; (with_reducible repeat (first | refine kD ?_ _ | refine k1_ ?_ | refine kA ?_ _)); exact BK164.out⟩
          have n6_ : Aside0 (Below w.heap.size w (((w39.setCell ⟨gb164, 0, none⟩ (.int .i64 ((rd_T41 ((rd_T43 l0_1 x34_1).f2) x41_2).f0))).setCell ⟨gb164, 1, none⟩ (.int .i64 ((rd_T41 ((rd_T43 l0_1 x34_1).f2) x41_2).f1))).setCell ⟨gb164, 2, none⟩ (.int .i64 ((rd_T41 ((rd_T43 l0_1 x34_1).f2) x41_2).f2)))) := ⟨by repeat (first | (with_reducible first | exact HB.out | apply bA | apply bD | apply b1 | refine bS ?_ GE154.out | refine bS ?_ GE155.out | refine bS ?_ GE160.out | refine bS ?_ GE162.out | refine bS ?_ GE164.out) | exact HB.out)⟩
          (try clear HO_161002)
          (try clear BK154)
          (try clear BK155)
          (try clear BK160)
          (try clear BK162)
          (try clear BK164)
          (try clear HB)
          generalize (((w39.setCell ⟨gb164, 0, none⟩ (.int .i64 ((rd_T41 ((rd_T43 l0_1 x34_1).f2) x41_2).f0))).setCell ⟨gb164, 1, none⟩ (.int .i64 ((rd_T41 ((rd_T43 l0_1 x34_1).f2) x41_2).f1))).setCell ⟨gb164, 2, none⟩ (.int .i64 ((rd_T41 ((rd_T43 l0_1 x34_1).f2) x41_2).f2))) = w45 at n0_ n1_ n2_ n3_ n4_ n5_ n6_ ⊢
          have HO_161002 := n0_
          have BK154 := n1_
          have BK155 := n2_
          have BK160 := n3_
          have BK162 := n4_
          have BK164 := n5_
          have HB := n6_
          clear n0_ n1_ n2_ n3_ n4_ n5_ n6_
          have n0_ := AM (r1x HO_161002.out)
          have n1_ := AM (k1_ BK154.out)
          have n2_ := AM (k1_ BK155.out)
          have n3_ := AM (k1_ BK160.out)
          have n4_ := AM (k1_ BK162.out)
          have n5_ := AM (k1_ BK164.out)
          have n6_ := AM (b1 HB.out)
          clear HO_161002
          clear BK154
          clear BK155
          clear BK160
          clear BK162
          clear BK164
          clear HB
          have HO_161002 := n0_
          have BK154 := n1_
          have BK155 := n2_
          have BK160 := n3_
          have BK162 := n4_
          have BK164 := n5_
          have HB := n6_
          clear n0_ n1_ n2_ n3_ n4_ n5_ n6_
          have p165 : 0 ≤ (x11_2 : Int) := of_decide_eq_true (by first | (with_reducible assumption) | assumption)
          have q165 : x11_2 < (((rd_T43 l0_1 x34_1).f2).length : Int) := of_decide_eq_true (by first | (with_reducible assumption) | assumption)
          obtain ⟨ad165, e165, hx165_0, hx165_1, hx165_2⟩ := at_T41 HR161_2.out x11_2 p165 q165
          have hw165_2 := hx165_2
          have hw165_1 := hx165_1
          have hw165_0 := hx165_0
          obtain rfl : ad163 = ad165 := (by injection e165)
          replace hx165_0 := (HB.out.cell (bL w _ hx165_0)).trans hx165_0
          replace hx165_1 := (HB.out.cell (bL w _ hx165_1)).trans hx165_1
          replace hx165_2 := (HB.out.cell (bL w _ hx165_2)).trans hx165_2
          replace p165 := eq_true p165
          replace q165 := eq_true q165
          refine start_ (n := 9) (S := fun w' => w'.cell? ⟨gb164, 0, none⟩ = some (.int .i64 ((rd_T41 ((rd_T43 l0_1 x34_1).f2) x41_2).f0)) ∧ w'.cell? ⟨gb164, 1, none⟩ = some (.int .i64 ((rd_T41 ((rd_T43 l0_1 x34_1).f2) x41_2).f1)) ∧ w'.cell? ⟨gb164, 2, none⟩ = some (.int .i64 ((rd_T41 ((rd_T43 l0_1 x34_1).f2) x41_2).f2)) ∧ w'.cell? ⟨gb162, 0, none⟩ = some (.string ((rd_T43 l0_1 x34_1).f0)) ∧ w'.cell? ⟨gb162, 1, none⟩ = some (.int .i64 ((rd_T43 l0_1 x34_1).f1)) ∧ w'.cell? ⟨gb162, 2, none⟩ = some (.slice (some ad163) ((rd_T43 l0_1 x34_1).f2).length c161_2) ∧ w'.cell? ⟨gb162, 3, none⟩ = some (.int .i64 ((rd_T43 l0_1 x34_1).f3)) ∧ w'.cell? ⟨gb162, 4, none⟩ = some (.int .i64 ((rd_T43 l0_1 x34_1).f4)) ∧ w'.cell? ⟨gb162, 5, none⟩ = some (.int .i64 ((rd_T43 l0_1 x34_1).f5)) ∧ w'.cell? (ad163.add ((x11_2).toNat * 3)) = some (.int .i64 ((rd_T41 ((rd_T43 l0_1 x34_1).f2) x11_2).f0)) ∧ w'.cell? ⟨(ad163.add ((x11_2).toNat * 3)).block, (ad163.add ((x11_2).toNat * 3)).off + 1, none⟩ = some (.int .i64 ((rd_T41 ((rd_T43 l0_1 x34_1).f2) x11_2).f1)) ∧ w'.cell? ⟨(ad163.add ((x11_2).toNat * 3)).block, (ad163.add ((x11_2).toNat * 3)).off + 2, none⟩ = some (.int .i64 ((rd_T41 ((rd_T43 l0_1 x34_1).f2) x11_2).f2))) (ds := []) #[false, false, false, false, false, false, false, false, false] (by kernel_rfl) rfl rfl ⟨(bC BK164.out 0).trans rfl, (bC BK164.out 1).trans rfl, (bC BK164.out 2).trans rfl, (bC BK162.out 0).trans rfl, (bC BK162.out 1).trans rfl, (bC BK162.out 2).trans rfl, (bC BK162.out 3).trans rfl, (bC BK162.out 4).trans rfl, (bC BK162.out 5).trans rfl, ((HB.out.cell (bL w _ hw165_0)).trans hw165_0), ((HB.out.cell (bL w _ hw165_1)).trans hw165_1), ((HB.out.cell (bL w _ hw165_2)).trans hw165_2)⟩ (fun hHeld => ?_); refine with_tabW keep_Worst.tab13 keep_Worst.bits13 (fun HT_ HW_ => ?_)
          generalize w45.drew = w46 at HO_161002 BK154 BK155 BK160 BK162 BK164 HB hx165_0 hx165_1 hx165_2 hHeld ⊢
          refine pure_ (i := 0) (N := some 46) (v := ?_) (a' := ?_) #[true, false, false, false, false, false, false, false, false] rfl rfl (any_of HT_.out (by kernel_rfl)) (fun _ _ _ h => h) (Or.inl ⟨by rfl, ?_⟩) ?_ ?_
          rotate_left
          · intro w'
            go_simp
            with_reducible rfl
          rotate_left
          · simp only [Act.put, List.setIfInBounds_toArray, List.set_cons_zero, List.set_cons_succ, i64_w, i32_w]
            rfl
          refine pure_ (i := 2) (N := some 48) (v := ?_) (a' := ?_) #[true, false, true, false, false, false, false, false, false] rfl rfl (any_of HT_.out (by kernel_rfl)) (fun _ _ _ h => h) (Or.inl ⟨by rfl, ?_⟩) ?_ ?_
          rotate_left
          · intro w'
            go_simp
            with_reducible rfl
          rotate_left
          · simp only [Act.put, List.setIfInBounds_toArray, List.set_cons_zero, List.set_cons_succ, i64_w, i32_w]
            rfl
          refine pure_ (i := 4) (N := some 50) (v := ?_) (a' := ?_) #[true, false, true, false, true, false, false, false, false] rfl rfl (any_of HT_.out (by kernel_rfl)) (fun _ _ _ h => h) (Or.inl ⟨by rfl, ?_⟩) ?_ ?_
          rotate_left
          · intro w'
            go_simp
            with_reducible rfl
          rotate_left
          · simp only [Act.put, List.setIfInBounds_toArray, List.set_cons_zero, List.set_cons_succ, i64_w, i32_w]
            rfl
          refine take_ (i := 1) (N := some 47) (v := ?_) (a' := ?_) #[true, true, true, false, true, false, false, false, false] rfl rfl (take_ofW HT_.out HW_.out (by kernel_rfl)) (fun _ _ _ h => h) (Or.inl ⟨by rfl, ?_⟩) hHeld ?_ ?_
          rotate_left
          · rintro w' ⟨s0, s1, s2, s3, s4, s5, s6, s7, s8, s9, s10, s11⟩
            go_simp
            with_reducible rfl
          rotate_left
          · simp only [Act.put, List.setIfInBounds_toArray, List.set_cons_zero, List.set_cons_succ, i64_w, i32_w]
            rfl
          refine take_ (i := 3) (N := some 49) (v := ?_) (a' := ?_) #[true, true, true, true, true, false, false, false, false] rfl rfl (take_ofW HT_.out HW_.out (by kernel_rfl)) (fun _ _ _ h => h) (Or.inl ⟨by rfl, ?_⟩) hHeld ?_ ?_
          rotate_left
          · rintro w' ⟨s0, s1, s2, s3, s4, s5, s6, s7, s8, s9, s10, s11⟩
            go_simp
            with_reducible rfl
          rotate_left
          · simp only [Act.put, List.setIfInBounds_toArray, List.set_cons_zero, List.set_cons_succ, i64_w, i32_w]
            rfl
          refine pure_ (i := 5) (N := some 51) (v := ?_) (a' := ?_) #[true, true, true, true, true, true, false, false, false] rfl rfl (any_of HT_.out (by kernel_rfl)) (fun _ _ _ h => h) (Or.inl ⟨by rfl, ?_⟩) ?_ ?_
          rotate_left
          · intro w'
            go_simp
            with_reducible rfl
          rotate_left
          · simp only [Act.put, List.setIfInBounds_toArray, List.set_cons_zero, List.set_cons_succ, i64_w, i32_w]
            rfl
          refine pure_ (i := 6) (N := some 52) (v := ?_) (a' := ?_) #[true, true, true, true, true, true, true, false, false] rfl rfl (any_of HT_.out (by kernel_rfl)) (fun _ _ _ h => h) (Or.inl ⟨by rfl, ?_⟩) ?_ ?_
          rotate_left
          · intro w'
            go_simp
            with_reducible rfl
          rotate_left
          · simp only [Act.put, List.setIfInBounds_toArray, List.set_cons_zero, List.set_cons_succ, i64_w, i32_w]
            rfl
          refine take_ (i := 7) (N := some 53) (v := ?_) (a' := ?_) #[true, true, true, true, true, true, true, true, false] rfl rfl (take_ofW HT_.out HW_.out (by kernel_rfl)) (fun _ _ _ h => h) (Or.inl ⟨by rfl, ?_⟩) hHeld ?_ ?_
          rotate_left
          · rintro w' ⟨s0, s1, s2, s3, s4, s5, s6, s7, s8, s9, s10, s11⟩
            go_simp
            with_reducible rfl
          rotate_left
          · simp only [Act.put, List.setIfInBounds_toArray, List.set_cons_zero, List.set_cons_succ, i64_w, i32_w]
            rfl
          refine pure_ (i := 8) (N := some 54) (v := ?_) (a' := ?_) #[true, true, true, true, true, true, true, true, true] rfl rfl (any_of HT_.out (by kernel_rfl)) (fun _ _ _ h => h) (Or.inl ⟨by rfl, ?_⟩) ?_ ?_
          rotate_left
          · intro w'
            go_simp
            with_reducible rfl
          rotate_left
          · simp only [Act.put, List.setIfInBounds_toArray, List.set_cons_zero, List.set_cons_succ, i64_w, i32_w]
            rfl
          refine done_ (done_of HT_.out (by kernel_rfl)) ?_
          try go_wp2
          go_roundg k2
          case measure => have := HK1.out; have := HK2.out; omega
          case rel => exact ⟨(x11_2), (wrap64 (x41_2 + 1)), (by first | rfl | (simp; done) | (simp [*]; done)), (by first | rfl | (simp; done) | (simp [*]; done)), H', ⟨by have := HK1.out; have := HK2.out; omega⟩, ⟨by (with_reducible repeat (first | apply rA | apply rD | apply r1x)); exact HO_161002.out⟩, ⟨by (with_reducible repeat (first | refine kD ?_ _ | refine k1_ ?_ | refine kA ?_ _)); exact BK154.out⟩, ⟨by (with_reducible repeat (first | refine kD ?_ _ | refine k1_ ?_ | refine kA ?_ _)); exact BK155.out⟩, ⟨by (with_reducible repeat (first | refine kD ?_ _ | refine k1_ ?_ | refine kA ?_ _)); exact BK160.out⟩, ⟨by (with_reducible repeat (first | refine kD ?_ _ | refine k1_ ?_ | refine kA ?_ _)); exact BK162.out⟩, ⟨by repeat (first | (with_reducible first | exact HB.out | apply bA | apply bD | apply b1 | refine bS ?_ GE154.out | refine bS ?_ GE155.out | refine bS ?_ GE160.out | refine bS ?_ GE162.out | refine bS ?_ GE164.out) | exact HB.out)⟩⟩
end Go.Proofs.YtdllkibfikcfbaaDoor.K
