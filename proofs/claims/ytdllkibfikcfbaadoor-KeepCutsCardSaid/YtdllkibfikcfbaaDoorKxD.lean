-- by a program of this session, over the kit's printer
import Derived.Test.YtdllkibfikcfbaaDoorKx0
import Derived.Test.YtdllkibfikcfbaaDoorKPatch
import Derived.Test.YtdllkibfikcfbaaDoorKxC
namespace Go.Proofs.YtdllkibfikcfbaaDoor.K
open Go.RowKit Go.Proofs.YtdllkibfikcfbaaDoorW.PrintWords Go.Proofs.YtdllkibfikcfbaaDoorW.PrintLast Go.Proofs.YtdllkibfikcfbaaDoorW.PrintMore
attribute [local go_sem] max2_int min2_int max_two min_two max_three min_three max_four min_four   -- for this text's walks alone
set_option linter.unusedVariables false
set_option linter.unusedSimpArgs false

/-! ### table_Clone: function 17 -/
mutual
def table_Clone.l0 : Nat → List (List (S41)) → Int → Int → List (List (S41)) → List (S43) → List (S58) → Int → Int → Option ((List (List (S41))) × (List (S43)) × (List (S58)) × Int × Int)
  | 0, _, _, _, _, _, _, _, _ => none
  | k + 1, x18, x19, x20, x325000, x325001, x325002, x325003, x325004 => if x20 < x19 then (if 0 ≤ x20 then (if x20 < (x18.length : Int) then ((api_Band_31.f (rd_L2 x18 x20)).bind fun t332 => (if x325000.length < 5864062014805 then (table_Clone.l0 k x18 x19 (wrap64 (x20 + 1)) (x325000 ++ [t332]) x325001 x325002 x325003 x325004) else (none))) else (none)) else (none)) else (table_Clone.l1 k (x325001.length : Int) 0 x325000 x325001 x325002 x325003 x325004)
def table_Clone.l1 : Nat → Int → Int → List (List (S41)) → List (S43) → List (S58) → Int → Int → Option ((List (List (S41))) × (List (S43)) × (List (S58)) × Int × Int)
  | 0, _, _, _, _, _, _, _ => none
  | k + 1, x34, x35, x325000, x325001, x325002, x325003, x325004 => if x35 < x34 then (if 0 ≤ x35 then (if x35 < (x325001.length : Int) then ((api_Band_31.f ((rd_T43 x325001 x35).f2)).bind fun t339 => (table_Clone.l1 k x34 (wrap64 (x35 + 1)) x325000 (x325001.set (x35 : Int).toNat (⟨(rd_T43 x325001 x35).f0, (rd_T43 x325001 x35).f1, t339, (rd_T43 x325001 x35).f3, (rd_T43 x325001 x35).f4, (rd_T43 x325001 x35).f5⟩ : S43)) x325002 x325003 x325004)) else (none)) else (none)) else (some (x325000, x325001, x325002, x325003, x325004))
end
def table_Clone.f (k : Nat) (l0_0 : List (List (S41))) (l0_1 : List (S43)) (l0_2 : List (S58)) (a0_3 : Int) (a0_4 : Int) : Option ((List (List (S41))) × (List (S43)) × (List (S58)) × Int × Int) := (api_Contrib_29.f l0_1).bind fun t325 => ((api_Kind_30.f l0_2).bind fun t328 => (table_Clone.l0 k l0_0 (l0_0.length : Int) 0 ([] : List (List (S41))) t325 t328 a0_3 a0_4))
def table_Clone.T2 : Bool × List (List Nat × List Nat) := (true, [([], []), ([0], [0]), ([1], [1]), ([], []), ([3], [3]), ([4, 2], [4]), ([], []), ([6, 5], [6]), ([0, 1, 2, 6, 7], []), ([8, 2, 7, 0, 1, 2, 6, 7], [2, 8]), ([0, 1, 2, 3, 4, 5, 6, 7, 8, 9], []), ([10, 5, 9, 0, 1, 2, 3, 4, 5, 6, 7, 8, 9], [5, 10])])
def table_Clone.B2 : List Nat := [0, 1, 3, 0, 8, 31, 0, 127, 255, 511, 1023, 2047]
theorem table_Clone.tab2 : rtab .any (opsOf Tryd.f12 2) = table_Clone.T2 := by kernel_rfl
theorem table_Clone.bits2 : waitsOk table_Clone.T2.2 table_Clone.B2 = true := by kernel_rfl
def table_Clone.T6 : Bool × List (List Nat × List Nat) := (true, [([], []), ([0], [0]), ([], []), ([2], [2]), ([3], [3]), ([1, 4, 3], [1, 4]), ([0, 1, 2, 3, 4, 5], []), ([6, 5, 5, 0, 1, 2, 3, 4, 5], [5, 6])])
def table_Clone.B6 : List Nat := [0, 1, 0, 4, 12, 31, 63, 127]
theorem table_Clone.tab6 : rtab .any (opsOf Tryd.f12 6) = table_Clone.T6 := by kernel_rfl
theorem table_Clone.bits6 : waitsOk table_Clone.T6.2 table_Clone.B6 = true := by kernel_rfl
def table_Clone.T11 : Bool × List (List Nat × List Nat) := (true, [([], []), ([0], [0]), ([], []), ([], []), ([3], [3]), ([], []), ([4, 5], [4, 5]), ([6], [6]), ([7], [7]), ([8], [8]), ([1, 2, 0, 1, 2, 3, 4, 5, 6, 7, 8, 9], [1, 2]), ([10, 0, 1, 2, 3, 4, 5, 6, 7, 8, 9], [10]), ([11, 9, 9, 0, 1, 2, 3, 4, 5, 6, 7, 8, 9], [9, 11])])
def table_Clone.B11 : List Nat := [0, 1, 0, 0, 8, 0, 56, 120, 248, 504, 1023, 2047, 4095]
theorem table_Clone.tab11 : rtab .any (opsOf Tryd.f12 11) = table_Clone.T11 := by kernel_rfl
theorem table_Clone.bits11 : waitsOk table_Clone.T11.2 table_Clone.B11 = true := by kernel_rfl
set_option maxHeartbeats 8000000 in
set_option maxRecDepth 100000 in
theorem table_Clone.calls (k : Nat) (A0_0 : Option Addr) (c0_0 : Nat) (l0_0 : List (List (S41))) (P0_1_ : Nat → Prop) (A0_1 : Option Addr) (c0_1 : Nat) (l0_1 : List (S43)) (A0_2 : Option Addr) (c0_2 : Nat) (l0_2 : List (S58)) (a0_3 : Int) (a0_4 : Int) (r1 : List (List (S41))) (r2 : List (S43)) (r3 : List (S58)) (r4 : Int) (r5 : Int) (w : World) (hr0_0 : Kd.C (Kd.slice 52 k41) w A0_0 l0_0.length l0_0) (hc0_0 : l0_0.length ≤ c0_0) (hs0_1 : Kd.V k43 49 w w.heap.size (fun k_ => P0_1_ k_) (.slice A0_1 l0_1.length c0_1) l0_1) (hr0_2 : Kd.C k58 w A0_2 l0_2.length l0_2) (hc0_2 : l0_2.length ≤ c0_2) (h : table_Clone.f k l0_0 l0_1 l0_2 a0_3 a0_4 = some (r1, r2, r3, r4, r5)) :
    Calls Tryd.prog 12 #[.agg #[.slice A0_0 l0_0.length c0_0, .slice A0_1 l0_1.length c0_1, .slice A0_2 l0_2.length c0_2, .int .i64 a0_3, .int .i64 a0_4]] w fun e w' => ∃ v0_ v1_ v2_ : Value, e = .returned (.agg #[v0_, v1_, v2_, .int .i64 r4, .int .i64 r5]) ∧ Kd.N (Kd.slice 52 k41) 47 w' w.heap.size (fun k_ => (P0_1_ k_ ∨ w.heap.size ≤ k_) ∧ some k_ ≠ (v1_ : Value).ownBlock ∧ some k_ ≠ (v2_ : Value).ownBlock) v0_ r1 ∧ Kd.N k43 49 w' w.heap.size (fun k_ => (P0_1_ k_ ∨ w.heap.size ≤ k_) ∧ some k_ ≠ (v0_ : Value).ownBlock ∧ some k_ ≠ (v2_ : Value).ownBlock) v1_ r2 ∧ Kd.R k58 61 w' w.heap.size (fun k_ => (w.heap.size ≤ k_)) v2_ r3 ∧ Below w.heap.size w w' := by
  have hu26 := Tryd.underlying26
  have HR0_0 := AM hr0_0
  have HC0_0 := AM hc0_0
  clear hr0_0 hc0_0
  have HO0_1 := AM (show Kd.V k43 49 w w.heap.size (fun k_ => (P0_1_ k_ ∨ w.heap.size ≤ k_)) (.slice A0_1 l0_1.length c0_1) l0_1 from Kd.V_mono hs0_1 (fun k_ hk => .inl hk))
  have HR0_2 := AM hr0_2
  have HC0_2 := AM hc0_2
  clear hr0_2 hc0_2
  have HB := AM (Below.refl w.heap.size w)
  have H : ((api_Contrib_29.f l0_1).bind fun t325 => ((api_Kind_30.f l0_2).bind fun t328 => (table_Clone.l0 k l0_0 (l0_0.length : Int) 0 ([] : List (List (S41))) t325 t328 a0_3 a0_4))) = some (r1, r2, r3, r4, r5) := h
  clear h
  replace H := Option.bind_eq_some_iff.mp H
  obtain ⟨t325, A20, H⟩ := H
  replace H : ((api_Kind_30.f l0_2).bind fun t328 => (table_Clone.l0 k l0_0 (l0_0.length : Int) 0 ([] : List (List (S41))) t325 t328 a0_3 a0_4)) = some (r1, r2, r3, r4, r5) := H
  have A2 := AM A20
  clear A20
  replace H := Option.bind_eq_some_iff.mp H
  obtain ⟨t328, A30, H⟩ := H
  replace H : (table_Clone.l0 k l0_0 (l0_0.length : Int) 0 ([] : List (List (S41))) t325 t328 a0_3 a0_4) = some (r1, r2, r3, r4, r5) := H
  have A3 := AM A30
  clear A30
  have H' := AM H
  clear H
  go_enter Tryd.func12, Tryd.ntmps12
  try go_wp2_with (first | ((with_reducible refine gD (N := 1) rfl ?_); refine bE ?hg (N := 1) ?hd (cs := #[.slice A0_0 l0_0.length c0_0, .slice A0_1 l0_1.length c0_1, .slice A0_2 l0_2.length c0_2, .int .i64 a0_3, .int .i64 a0_4]) (t := 26) ?hr ?_; (case hd => rfl); (case hg => rfl); (case hr => first | (go_simp; done) | (go_simp; rfl)); intro gb322 hg w4 hbox hb; have n0_ := AM (Kd.V_below (Kd.V_elderB (by (with_reducible repeat (first | apply Kd.V_alloc | apply Kd.V_drewN | apply Kd.V_drew)); exact HO0_1.out) gb322 (Nat.le_of_eq hg.symm)) hb); have n1_ := AM (bT (by repeat (first | (with_reducible first | exact HB.out | apply bA | apply bD | apply b1) | exact HB.out)) hb); have n2_ := AM (hbox); have n3_ := AM ((by rw [hg]; exact (bZ (by repeat (first | (with_reducible first | exact HB.out | apply bA | apply bD | apply b1) | exact HB.out))) : w.heap.size ≤ gb322)); have n4_ := AM ((by rw [hg]; exact (bZ (by repeat (first | (with_reducible first | exact HB.out | apply bA | apply bD | apply b1) | exact HB.out))) : w.heap.size ≤ gb322)); clear HO0_1; clear HB; have HO0_1 := n0_; have HB := n1_; have BK322 := n2_; have GW322 := n3_; have GE322 := n4_; clear n0_ n1_ n2_ n3_ n4_; clear hb hbox hg) | ((with_reducible refine gD (N := 2) rfl ?_); refine bE ?hg (N := 2) ?hd (cs := #[.slice none 0 0, .slice none 0 0, .slice none 0 0, .int .i64 0, .int .i64 0]) (t := 26) ?hr ?_; (case hd => rfl); (case hg => rfl); (case hr => first | (go_simp; done) | (go_simp; rfl)); intro gb323 hg w5 hbox hb; have n0_ := AM (Kd.V_below (Kd.V_elderB (by (with_reducible repeat (first | apply Kd.V_alloc | apply Kd.V_drewN | apply Kd.V_drew)); exact HO0_1.out) gb323 (Nat.le_of_eq hg.symm)) hb); have n1_ := AM (kB (g := gb322) (o := .cells #[.slice A0_0 l0_0.length c0_0, .slice A0_1 l0_1.length c0_1, .slice A0_2 l0_2.length c0_2, .int .i64 a0_3, .int .i64 a0_4] 26 (0, 0)) (by (with_reducible repeat (first | refine kD ?_ _ | refine k1_ ?_ | refine kA ?_ _)); exact BK322.out) hb); have n2_ := AM (bT (by repeat (first | (with_reducible first | exact HB.out | apply bA | apply bD | apply b1 | refine bS ?_ GE322.out) | exact HB.out)) hb); have n3_ := AM (hbox); have n4_ := AM ((by rw [hg]; exact (bZ (by repeat (first | (with_reducible first | exact HB.out | apply bA | apply bD | apply b1 | refine bS ?_ GE322.out) | exact HB.out))) : w.heap.size ≤ gb323)); have n5_ := AM ((by rw [hg]; exact (bZ (by repeat (first | (with_reducible first | exact HB.out | apply bA | apply bD | apply b1 | refine bS ?_ GE322.out) | exact HB.out))) : w.heap.size ≤ gb323)); have n6_ := AM ((by rw [hg]; exact Nat.ne_of_lt (blk_lt (g := gb322) (o := .cells #[.slice A0_0 l0_0.length c0_0, .slice A0_1 l0_1.length c0_1, .slice A0_2 l0_2.length c0_2, .int .i64 a0_3, .int .i64 a0_4] 26 (0, 0)) (by (with_reducible repeat (first | refine kD ?_ _ | refine k1_ ?_ | refine kA ?_ _)); exact BK322.out)) : gb322 ≠ gb323)); have n7_ := AM ((by rw [hg]; exact Nat.ne_of_gt (blk_lt (g := gb322) (o := .cells #[.slice A0_0 l0_0.length c0_0, .slice A0_1 l0_1.length c0_1, .slice A0_2 l0_2.length c0_2, .int .i64 a0_3, .int .i64 a0_4] 26 (0, 0)) (by (with_reducible repeat (first | refine kD ?_ _ | refine k1_ ?_ | refine kA ?_ _)); exact BK322.out)) : gb323 ≠ gb322)); clear HO0_1; clear BK322; clear HB; have HO0_1 := n0_; have BK322 := n1_; have HB := n2_; have BK323 := n3_; have GW323 := n4_; have GE323 := n5_; have NB322_323 := n6_; have NB323_322 := n7_; clear n0_ n1_ n2_ n3_ n4_ n5_ n6_ n7_; clear hb hbox hg; have hnb6 := NB322_323.out; have hnc6 := NB323_322.out; have hcz7_0 : w5.cell? ⟨gb322, 0, none⟩ = some (.slice A0_0 l0_0.length c0_0) := (bC BK322.out 0).trans rfl; have hcz7_1 : w5.cell? ⟨gb322, 1, none⟩ = some (.slice A0_1 l0_1.length c0_1) := (bC BK322.out 1).trans rfl; have hcz7_2 : w5.cell? ⟨gb322, 2, none⟩ = some (.slice A0_2 l0_2.length c0_2) := (bC BK322.out 2).trans rfl; have hcz7_3 : w5.cell? ⟨gb322, 3, none⟩ = some (.int .i64 a0_3) := (bC BK322.out 3).trans rfl; have hcz7_4 : w5.cell? ⟨gb322, 4, none⟩ = some (.int .i64 a0_4) := (bC BK322.out 4).trans rfl; have hfz7_0 := bF BK322.out 0; have hfz7_1 := bF BK322.out 1; have hfz7_2 := bF BK322.out 2; have hfz7_3 := bF BK322.out 3; have hfz7_4 := bF BK322.out 4) | ((with_reducible refine gD (N := 3) rfl ?_); refine bE ?hg (N := 3) ?hd (cs := #[.slice none 0 0, .slice none 0 0, .slice none 0 0, .int .i64 0, .int .i64 0]) (t := 26) ?hr ?_; (case hd => rfl); (case hg => rfl); (case hr => first | (go_simp; done) | (go_simp; rfl)); intro gb324 hg w8 hbox hb; have n0_ := AM (Kd.V_below (Kd.V_elderB (by (with_reducible repeat (first | apply Kd.V_alloc | apply Kd.V_drewN | apply Kd.V_drew)); exact HO0_1.out) gb324 (Nat.le_of_eq hg.symm)) hb); have n1_ := AM (kB (g := gb322) (o := .cells #[.slice A0_0 l0_0.length c0_0, .slice A0_1 l0_1.length c0_1, .slice A0_2 l0_2.length c0_2, .int .i64 a0_3, .int .i64 a0_4] 26 (0, 0)) (by (with_reducible repeat (first | refine kD ?_ _ | refine k1_ ?_ | refine kA ?_ _)); exact BK322.out) hb); have n2_ := AM (kB (g := gb323) (o := .cells #[.slice none 0 0, .slice none 0 0, .slice none 0 0, .int .i64 0, .int .i64 0] 26 (0, 0)) (by (with_reducible repeat (first | refine kD ?_ _ | refine k1_ ?_ | refine kA ?_ _)); exact BK323.out) hb); have n3_ := AM (bT (by repeat (first | (with_reducible first | exact HB.out | apply bA | apply bD | apply b1 | refine bS ?_ GE322.out | refine bS ?_ GE323.out) | exact HB.out)) hb); have n4_ := AM (hbox); have n5_ := AM ((by rw [hg]; exact (bZ (by repeat (first | (with_reducible first | exact HB.out | apply bA | apply bD | apply b1 | refine bS ?_ GE322.out | refine bS ?_ GE323.out) | exact HB.out))) : w.heap.size ≤ gb324)); have n6_ := AM ((by rw [hg]; exact (bZ (by repeat (first | (with_reducible first | exact HB.out | apply bA | apply bD | apply b1 | refine bS ?_ GE322.out | refine bS ?_ GE323.out) | exact HB.out))) : w.heap.size ≤ gb324)); have n7_ := AM ((by rw [hg]; exact Nat.ne_of_lt (blk_lt (g := gb322) (o := .cells #[.slice A0_0 l0_0.length c0_0, .slice A0_1 l0_1.length c0_1, .slice A0_2 l0_2.length c0_2, .int .i64 a0_3, .int .i64 a0_4] 26 (0, 0)) (by (with_reducible repeat (first | refine kD ?_ _ | refine k1_ ?_ | refine kA ?_ _)); exact BK322.out)) : gb322 ≠ gb324)); have n8_ := AM ((by rw [hg]; exact Nat.ne_of_gt (blk_lt (g := gb322) (o := .cells #[.slice A0_0 l0_0.length c0_0, .slice A0_1 l0_1.length c0_1, .slice A0_2 l0_2.length c0_2, .int .i64 a0_3, .int .i64 a0_4] 26 (0, 0)) (by (with_reducible repeat (first | refine kD ?_ _ | refine k1_ ?_ | refine kA ?_ _)); exact BK322.out)) : gb324 ≠ gb322)); have n9_ := AM ((by rw [hg]; exact Nat.ne_of_lt (blk_lt (g := gb323) (o := .cells #[.slice none 0 0, .slice none 0 0, .slice none 0 0, .int .i64 0, .int .i64 0] 26 (0, 0)) (by (with_reducible repeat (first | refine kD ?_ _ | refine k1_ ?_ | refine kA ?_ _)); exact BK323.out)) : gb323 ≠ gb324)); have n10_ := AM ((by rw [hg]; exact Nat.ne_of_gt (blk_lt (g := gb323) (o := .cells #[.slice none 0 0, .slice none 0 0, .slice none 0 0, .int .i64 0, .int .i64 0] 26 (0, 0)) (by (with_reducible repeat (first | refine kD ?_ _ | refine k1_ ?_ | refine kA ?_ _)); exact BK323.out)) : gb324 ≠ gb323)); clear HO0_1; clear BK322; clear BK323; clear HB; have HO0_1 := n0_; have BK322 := n1_; have BK323 := n2_; have HB := n3_; have BK324 := n4_; have GW324 := n5_; have GE324 := n6_; have NB322_324 := n7_; have NB324_322 := n8_; have NB323_324 := n9_; have NB324_323 := n10_; clear n0_ n1_ n2_ n3_ n4_ n5_ n6_ n7_ n8_ n9_ n10_; clear hb hbox hg; have hnb9 := NB324_322.out; have hnc9 := NB322_324.out; have hnb10 := NB324_323.out; have hnc10 := NB323_324.out; have hcz11_0 : w8.cell? ⟨gb324, 0, none⟩ = some (.slice none 0 0) := (bC BK324.out 0).trans rfl; have hcz11_1 : w8.cell? ⟨gb324, 1, none⟩ = some (.slice none 0 0) := (bC BK324.out 1).trans rfl; have hcz11_2 : w8.cell? ⟨gb324, 2, none⟩ = some (.slice none 0 0) := (bC BK324.out 2).trans rfl; have hcz11_3 : w8.cell? ⟨gb324, 3, none⟩ = some (.int .i64 0) := (bC BK324.out 3).trans rfl; have hcz11_4 : w8.cell? ⟨gb324, 4, none⟩ = some (.int .i64 0) := (bC BK324.out 4).trans rfl; have hfz11_0 := bF BK324.out 0; have hfz11_1 := bF BK324.out 1; have hfz11_2 := bF BK324.out 2; have hfz11_3 := bF BK324.out 3; have hfz11_4 := bF BK324.out 4))
  have n0_ : Aside0 (Kd.V k43 49 (((((w8.setCell ⟨gb324, 0, none⟩ (.slice A0_0 l0_0.length c0_0)).setCell ⟨gb324, 1, none⟩ (.slice A0_1 l0_1.length c0_1)).setCell ⟨gb324, 2, none⟩ (.slice A0_2 l0_2.length c0_2)).setCell ⟨gb324, 3, none⟩ (.int .i64 a0_3)).setCell ⟨gb324, 4, none⟩ (.int .i64 a0_4)) w.heap.size (fun k_ => (P0_1_ k_ ∨ w.heap.size ≤ k_) ∧ k_ ≠ gb322 ∧ k_ ≠ gb323 ∧ k_ ≠ gb324) (.slice A0_1 l0_1.length c0_1) l0_1) := ⟨by (with_reducible repeat (first | apply Kd.V_alloc | apply Kd.V_drewN | apply Kd.V_drew)); exact Kd.V_mono (Kd.V_far (p := ⟨gb324, 4, none⟩) (Kd.V_far (p := ⟨gb324, 3, none⟩) (Kd.V_far (p := ⟨gb324, 2, none⟩) (Kd.V_far (p := ⟨gb324, 1, none⟩) (Kd.V_far (p := ⟨gb324, 0, none⟩) (Kd.V_mono HO0_1.out (fun k_ hk => (⟨hk, hk.2⟩ : _ ∧ k_ ≠ gb324))) (fun _ hk => hk.2) (.slice A0_0 l0_0.length c0_0)) (fun _ hk => hk.2) (.slice A0_1 l0_1.length c0_1)) (fun _ hk => hk.2) (.slice A0_2 l0_2.length c0_2)) (fun _ hk => hk.2) (.int .i64 a0_3)) (fun _ hk => hk.2) (.int .i64 a0_4)) (fun _ hk => ⟨hk.1.1.1.1, ⟨hk.1.1.1.2, ⟨hk.1.1.2, hk.1.2⟩⟩⟩)⟩
  have n1_ : Aside0 ((((((w8.setCell ⟨gb324, 0, none⟩ (.slice A0_0 l0_0.length c0_0)).setCell ⟨gb324, 1, none⟩ (.slice A0_1 l0_1.length c0_1)).setCell ⟨gb324, 2, none⟩ (.slice A0_2 l0_2.length c0_2)).setCell ⟨gb324, 3, none⟩ (.int .i64 a0_3)).setCell ⟨gb324, 4, none⟩ (.int .i64 a0_4)).heap[gb322]? = some (.cells #[.slice A0_0 l0_0.length c0_0, .slice A0_1 l0_1.length c0_1, .slice A0_2 l0_2.length c0_2, .int .i64 a0_3, .int .i64 a0_4] 26 (0, 0))) := ⟨by (with_reducible repeat (first | refine kD ?_ _ | refine k1_ ?_ | refine kA ?_ _)); refine kF ?_ NB322_324.out _; (with_reducible repeat (first | refine kD ?_ _ | refine k1_ ?_ | refine kA ?_ _)); refine kF ?_ NB322_324.out _; (with_reducible repeat (first | refine kD ?_ _ | refine k1_ ?_ | refine kA ?_ _)); refine kF ?_ NB322_324.out _; (with_reducible repeat (first | refine kD ?_ _ | refine k1_ ?_ | refine kA ?_ _)); refine kF ?_ NB322_324.out _; (with_reducible repeat (first | refine kD ?_ _ | refine k1_ ?_ | refine kA ?_ _)); refine kF ?_ NB322_324.out _; (with_reducible repeat (first | refine kD ?_ _ | refine k1_ ?_ | refine kA ?_ _)); exact BK322.out⟩
  have n2_ : Aside0 ((((((w8.setCell ⟨gb324, 0, none⟩ (.slice A0_0 l0_0.length c0_0)).setCell ⟨gb324, 1, none⟩ (.slice A0_1 l0_1.length c0_1)).setCell ⟨gb324, 2, none⟩ (.slice A0_2 l0_2.length c0_2)).setCell ⟨gb324, 3, none⟩ (.int .i64 a0_3)).setCell ⟨gb324, 4, none⟩ (.int .i64 a0_4)).heap[gb323]? = some (.cells #[.slice none 0 0, .slice none 0 0, .slice none 0 0, .int .i64 0, .int .i64 0] 26 (0, 0))) := ⟨by (with_reducible repeat (first | refine kD ?_ _ | refine k1_ ?_ | refine kA ?_ _)); refine kF ?_ NB323_324.out _; (with_reducible repeat (first | refine kD ?_ _ | refine k1_ ?_ | refine kA ?_ _)); refine kF ?_ NB323_324.out _; (with_reducible repeat (first | refine kD ?_ _ | refine k1_ ?_ | refine kA ?_ _)); refine kF ?_ NB323_324.out _; (with_reducible repeat (first | refine kD ?_ _ | refine k1_ ?_ | refine kA ?_ _)); refine kF ?_ NB323_324.out _; (with_reducible repeat (first | refine kD ?_ _ | refine k1_ ?_ | refine kA ?_ _)); refine kF ?_ NB323_324.out _; (with_reducible repeat (first | refine kD ?_ _ | refine k1_ ?_ | refine kA ?_ _)); exact BK323.out⟩
  have n3_ : Aside0 ((((((w8.setCell ⟨gb324, 0, none⟩ (.slice A0_0 l0_0.length c0_0)).setCell ⟨gb324, 1, none⟩ (.slice A0_1 l0_1.length c0_1)).setCell ⟨gb324, 2, none⟩ (.slice A0_2 l0_2.length c0_2)).setCell ⟨gb324, 3, none⟩ (.int .i64 a0_3)).setCell ⟨gb324, 4, none⟩ (.int .i64 a0_4)).heap[gb324]? = some (.cells #[.slice A0_0 l0_0.length c0_0, .slice A0_1 l0_1.length c0_1, .slice A0_2 l0_2.length c0_2, .int .i64 a0_3, .int .i64 a0_4] 26 (0, 0))) := ⟨by (with_reducible repeat (first | refine kD ?_ _ | refine k1_ ?_ | refine kA ?_ _)); refine kP (cs := #[.slice A0_0 l0_0.length c0_0, .slice A0_1 l0_1.length c0_1, .slice A0_2 l0_2.length c0_2, .int .i64 a0_3, .int .i64 0]) ?_ 4 _ rfl; (with_reducible repeat (first | refine kD ?_ _ | refine k1_ ?_ | refine kA ?_ _)); refine kP (cs := #[.slice A0_0 l0_0.length c0_0, .slice A0_1 l0_1.length c0_1, .slice A0_2 l0_2.length c0_2, .int .i64 0, .int .i64 0]) ?_ 3 _ rfl; (with_reducible repeat (first | refine kD ?_ _ | refine k1_ ?_ | refine kA ?_ _)); refine kP (cs := #[.slice A0_0 l0_0.length c0_0, .slice A0_1 l0_1.length c0_1, .slice none 0 0, .int .i64 0, .int .i64 0]) ?_ 2 _ rfl; (with_reducible repeat (first | refine kD ?_ _ | refine k1_ ?_ | refine kA ?_ _)); refine kP (cs := #[.slice A0_0 l0_0.length c0_0, .slice none 0 0, .slice none 0 0, .int .i64 0, .int .i64 0]) ?_ 1 _ rfl; (with_reducible repeat (first | refine kD ?_ _ | refine k1_ ?_ | refine kA ?_ _)); refine kP (cs := #[.slice none 0 0, .slice none 0 0, .slice none 0 0, .int .i64 0, .int .i64 0]) ?_ 0 _ rfl; (with_reducible repeat (first | refine kD ?_ _ | refine k1_ ?_ | refine kA ?_ _)); exact BK324.out⟩
  have n4_ : Aside0 (Below w.heap.size w (((((w8.setCell ⟨gb324, 0, none⟩ (.slice A0_0 l0_0.length c0_0)).setCell ⟨gb324, 1, none⟩ (.slice A0_1 l0_1.length c0_1)).setCell ⟨gb324, 2, none⟩ (.slice A0_2 l0_2.length c0_2)).setCell ⟨gb324, 3, none⟩ (.int .i64 a0_3)).setCell ⟨gb324, 4, none⟩ (.int .i64 a0_4))) := ⟨by repeat (first | (with_reducible first | exact HB.out | apply bA | apply bD | apply b1 | refine bS ?_ GE322.out | refine bS ?_ GE323.out | refine bS ?_ GE324.out) | exact HB.out)⟩
  (try clear HO0_1)
  (try clear BK322)
  (try clear BK323)
  (try clear BK324)
  (try clear HB)
  generalize (((((w8.setCell ⟨gb324, 0, none⟩ (.slice A0_0 l0_0.length c0_0)).setCell ⟨gb324, 1, none⟩ (.slice A0_1 l0_1.length c0_1)).setCell ⟨gb324, 2, none⟩ (.slice A0_2 l0_2.length c0_2)).setCell ⟨gb324, 3, none⟩ (.int .i64 a0_3)).setCell ⟨gb324, 4, none⟩ (.int .i64 a0_4)) = w12 at n0_ n1_ n2_ n3_ n4_ ⊢
  have HO0_1 := n0_
  have BK322 := n1_
  have BK323 := n2_
  have BK324 := n3_
  have HB := n4_
  clear n0_ n1_ n2_ n3_ n4_
  have n0_ := AM (Kd.V_drew HO0_1.out)
  have n1_ := AM (k1_ BK322.out)
  have n2_ := AM (k1_ BK323.out)
  have n3_ := AM (k1_ BK324.out)
  have n4_ := AM (b1 HB.out)
  clear HO0_1
  clear BK322
  clear BK323
  clear BK324
  clear HB
  have HO0_1 := n0_
  have BK322 := n1_
  have BK323 := n2_
  have BK324 := n3_
  have HB := n4_
  clear n0_ n1_ n2_ n3_ n4_
  refine start_ (n := 12) (S := fun w' => w'.cell? ⟨gb322, 0, none⟩ = some (.slice A0_0 l0_0.length c0_0) ∧ w'.cell? ⟨gb322, 1, none⟩ = some (.slice A0_1 l0_1.length c0_1) ∧ w'.cell? ⟨gb322, 2, none⟩ = some (.slice A0_2 l0_2.length c0_2) ∧ w'.cell? ⟨gb322, 3, none⟩ = some (.int .i64 a0_3) ∧ w'.cell? ⟨gb322, 4, none⟩ = some (.int .i64 a0_4)) (ds := []) #[false, false, false, false, false, false, false, false, false, false, false, false] (by kernel_rfl) rfl rfl ⟨(bC BK322.out 0).trans rfl, (bC BK322.out 1).trans rfl, (bC BK322.out 2).trans rfl, (bC BK322.out 3).trans rfl, (bC BK322.out 4).trans rfl⟩ (fun hHeld => ?_); refine with_tabW table_Clone.tab2 table_Clone.bits2 (fun HT_ HW_ => ?_)
  generalize w12.drew = w13 at HO0_1 BK322 BK323 BK324 HB hHeld ⊢
  refine pure_ (i := 0) (N := some 8) (v := ?_) (a' := ?_) #[true, false, false, false, false, false, false, false, false, false, false, false] rfl rfl (any_of HT_.out (by kernel_rfl)) (fun _ _ _ h => h) (Or.inl ⟨by rfl, ?_⟩) ?_ ?_
  rotate_left
  · intro w'
    go_simp
    with_reducible rfl
  rotate_left
  · simp only [Act.put, List.setIfInBounds_toArray, List.set_cons_zero, List.set_cons_succ, i64_w, i32_w]
    rfl
  refine pure_ (i := 3) (N := some 11) (v := ?_) (a' := ?_) #[true, false, false, true, false, false, false, false, false, false, false, false] rfl rfl (any_of HT_.out (by kernel_rfl)) (fun _ _ _ h => h) (Or.inl ⟨by rfl, ?_⟩) ?_ ?_
  rotate_left
  · intro w'
    go_simp
    with_reducible rfl
  rotate_left
  · simp only [Act.put, List.setIfInBounds_toArray, List.set_cons_zero, List.set_cons_succ, i64_w, i32_w]
    rfl
  refine pure_ (i := 6) (N := some 14) (v := ?_) (a' := ?_) #[true, false, false, true, false, false, true, false, false, false, false, false] rfl rfl (any_of HT_.out (by kernel_rfl)) (fun _ _ _ h => h) (Or.inl ⟨by rfl, ?_⟩) ?_ ?_
  rotate_left
  · intro w'
    go_simp
    with_reducible rfl
  rotate_left
  · simp only [Act.put, List.setIfInBounds_toArray, List.set_cons_zero, List.set_cons_succ, i64_w, i32_w]
    rfl
  refine take_ (i := 1) (N := some 9) (v := ?_) (a' := ?_) #[true, true, false, true, false, false, true, false, false, false, false, false] rfl rfl (take_ofW HT_.out HW_.out (by kernel_rfl)) (fun _ _ _ h => h) (Or.inl ⟨by rfl, ?_⟩) hHeld ?_ ?_
  rotate_left
  · rintro w' ⟨s0, s1, s2, s3, s4⟩
    go_simp
    with_reducible rfl
  rotate_left
  · simp only [Act.put, List.setIfInBounds_toArray, List.set_cons_zero, List.set_cons_succ, i64_w, i32_w]
    rfl
  refine take_ (i := 4) (N := some 12) (v := ?_) (a' := ?_) #[true, true, false, true, true, false, true, false, false, false, false, false] rfl rfl (take_ofW HT_.out HW_.out (by kernel_rfl)) (fun _ _ _ h => h) (Or.inl ⟨by rfl, ?_⟩) hHeld ?_ ?_
  rotate_left
  · rintro w' ⟨s0, s1, s2, s3, s4⟩
    go_simp
    with_reducible rfl
  rotate_left
  · simp only [Act.put, List.setIfInBounds_toArray, List.set_cons_zero, List.set_cons_succ, i64_w, i32_w]
    rfl
  refine one_ (i := 2) (N := some 10) #[true, true, true, true, true, false, true, false, false, false, false, false] rfl rfl (one_of HT_.out (by kernel_rfl)) (by decide) (fun K hK => ?_)
  refine goes_ Tryd.func27 (by kernel_rfl) rfl #[.slice A0_1 l0_1.length c0_1] (by rfl) rfl rfl (by (try simp only [List.map_toArray, List.map_cons, List.map_nil]); first | done | rfl | (simp only [List.length_drop, List.length_take]; rfl)) ?_
  with_reducible refine (api_Contrib_29.calls (fun k_ => ((P0_1_ k_ ∨ w.heap.size ≤ k_) ∧ (k_ ≠ gb322 ∧ (k_ ≠ gb323 ∧ k_ ≠ gb324)))) _ _ l0_1 t325 _ ?side1 A2.out).mono ?_
  (case side1 => exact HO0_1.out)
  rintro e w14 ⟨v326, rfl, ho0, hb⟩
  refine ⟨_, rfl, ?_⟩
  have n0_ := AM (Kd.V_elder' (by (with_reducible repeat (first | apply Kd.V_alloc | apply Kd.V_drewN | apply Kd.V_drew)); exact HO0_1.out) (Kd.N_base ho0) hb)
  have n1_ := AM (Kd.N_lower (Kd.N_mono (ok' := fun k_ => (P0_1_ k_ ∨ w.heap.size ≤ k_) ∧ k_ ≠ gb322 ∧ k_ ≠ gb323 ∧ k_ ≠ gb324) ho0 (fun k_ hk_ => ⟨Or.elim hk_ (fun hs_ => hs_.1) (fun hn_ => (.inr (Nat.le_trans (bZ (by repeat (first | (with_reducible first | exact HB.out | apply bA | apply bD | apply b1 | refine bS ?_ GE322.out | refine bS ?_ GE323.out | refine bS ?_ GE324.out) | exact HB.out))) hn_))), Or.elim hk_ (fun hs_ => hs_.2.1) (fun hn_ => (Kd.freshB (g := gb322) (o := .cells #[.slice A0_0 l0_0.length c0_0, .slice A0_1 l0_1.length c0_1, .slice A0_2 l0_2.length c0_2, .int .i64 a0_3, .int .i64 a0_4] 26 (0, 0)) (by (with_reducible repeat (first | refine kD ?_ _ | refine k1_ ?_ | refine kA ?_ _)); exact BK322.out) k_ hn_)), Or.elim hk_ (fun hs_ => hs_.2.2.1) (fun hn_ => (Kd.freshB (g := gb323) (o := .cells #[.slice none 0 0, .slice none 0 0, .slice none 0 0, .int .i64 0, .int .i64 0] 26 (0, 0)) (by (with_reducible repeat (first | refine kD ?_ _ | refine k1_ ?_ | refine kA ?_ _)); exact BK323.out) k_ hn_)), Or.elim hk_ (fun hs_ => hs_.2.2.2) (fun hn_ => (Kd.freshB (g := gb324) (o := .cells #[.slice A0_0 l0_0.length c0_0, .slice A0_1 l0_1.length c0_1, .slice A0_2 l0_2.length c0_2, .int .i64 a0_3, .int .i64 a0_4] 26 (0, 0)) (by (with_reducible repeat (first | refine kD ?_ _ | refine k1_ ?_ | refine kA ?_ _)); exact BK324.out) k_ hn_))⟩)) (bZ (by repeat (first | (with_reducible first | exact HB.out | apply bA | apply bD | apply b1 | refine bS ?_ GE322.out | refine bS ?_ GE323.out | refine bS ?_ GE324.out) | exact HB.out))))
  have n2_ := AM (kB (g := gb322) (o := .cells #[.slice A0_0 l0_0.length c0_0, .slice A0_1 l0_1.length c0_1, .slice A0_2 l0_2.length c0_2, .int .i64 a0_3, .int .i64 a0_4] 26 (0, 0)) (by (with_reducible repeat (first | refine kD ?_ _ | refine k1_ ?_ | refine kA ?_ _)); exact BK322.out) hb)
  have n3_ := AM (kB (g := gb323) (o := .cells #[.slice none 0 0, .slice none 0 0, .slice none 0 0, .int .i64 0, .int .i64 0] 26 (0, 0)) (by (with_reducible repeat (first | refine kD ?_ _ | refine k1_ ?_ | refine kA ?_ _)); exact BK323.out) hb)
  have n4_ := AM (kB (g := gb324) (o := .cells #[.slice A0_0 l0_0.length c0_0, .slice A0_1 l0_1.length c0_1, .slice A0_2 l0_2.length c0_2, .int .i64 a0_3, .int .i64 a0_4] 26 (0, 0)) (by (with_reducible repeat (first | refine kD ?_ _ | refine k1_ ?_ | refine kA ?_ _)); exact BK324.out) hb)
  have n5_ := AM (bT (by repeat (first | (with_reducible first | exact HB.out | apply bA | apply bD | apply b1 | refine bS ?_ GE322.out | refine bS ?_ GE323.out | refine bS ?_ GE324.out) | exact HB.out)) hb)
  clear HO0_1
  clear BK322
  clear BK323
  clear BK324
  clear HB
  have HO0_1 := n0_
  have HO327 := n1_
  have BK322 := n2_
  have BK323 := n3_
  have BK324 := n4_
  have HB := n5_
  clear n0_ n1_ n2_ n3_ n4_ n5_
  (try clear hb)
  (try clear hb2)
  (try clear hk)
  (try clear hi)
  (try clear ho0)
  refine hK.out _ _ ⟨(bC BK322.out 0).trans rfl, (bC BK322.out 1).trans rfl, (bC BK322.out 2).trans rfl, (bC BK322.out 3).trans rfl, (bC BK322.out 4).trans rfl⟩ (fun hHeld => ?_)
  clear hK K
  refine norm_ (a' := ?_) ?_ ?_
  rotate_left
  · show Act.put _ (some 10) _ = _
    simp only [Act.put, List.setIfInBounds_toArray, List.set_cons_zero, List.set_cons_succ, i64_w, i32_w]
    rfl
  refine one_ (i := 5) (N := some 13) #[true, true, true, true, true, true, true, false, false, false, false, false] rfl rfl (one_of HT_.out (by kernel_rfl)) (by decide) (fun K hK => ?_)
  refine goes_ Tryd.func28 (by kernel_rfl) rfl #[.slice A0_2 l0_2.length c0_2] (by rfl) rfl rfl (by (try simp only [List.map_toArray, List.map_cons, List.map_nil]); first | done | rfl | (simp only [List.length_drop, List.length_take]; rfl)) ?_
  with_reducible refine (api_Kind_30.calls _ _ l0_2 t328 _ ?side1 ?side2 A3.out).mono ?_
  (case side1 => repeat (first | exact (cB HR0_2.out HB.out) | (with_reducible refine cA ?_ _) | (with_reducible refine cD ?_ _) | (with_reducible refine c1_ ?_)))
  (case side2 => exact HC0_2.out)
  rintro e w15 ⟨v329, rfl, ho0, hb⟩
  refine ⟨_, rfl, ?_⟩
  have n0_ := AM (Kd.V_elder' (by (with_reducible repeat (first | apply Kd.V_alloc | apply Kd.V_drewN | apply Kd.V_drew)); exact HO0_1.out) (Kd.R_base ho0) hb)
  have n1_ := AM (Kd.N_elder' (by (with_reducible repeat (first | apply nA | apply nD | apply n1x)); exact HO327.out) (Kd.R_base ho0) hb)
  have n2_ := AM (Kd.R_lower (Kd.R_newM (M := fun k_ => (w.heap.size ≤ k_)) ho0 (bZ (by repeat (first | (with_reducible first | exact HB.out | apply bA | apply bD | apply b1 | refine bS ?_ GE322.out | refine bS ?_ GE323.out | refine bS ?_ GE324.out) | exact HB.out))) (fun k_ h_ => h_)) (bZ (by repeat (first | (with_reducible first | exact HB.out | apply bA | apply bD | apply b1 | refine bS ?_ GE322.out | refine bS ?_ GE323.out | refine bS ?_ GE324.out) | exact HB.out))))
  have n3_ := AM (kB (g := gb322) (o := .cells #[.slice A0_0 l0_0.length c0_0, .slice A0_1 l0_1.length c0_1, .slice A0_2 l0_2.length c0_2, .int .i64 a0_3, .int .i64 a0_4] 26 (0, 0)) (by (with_reducible repeat (first | refine kD ?_ _ | refine k1_ ?_ | refine kA ?_ _)); exact BK322.out) hb)
  have n4_ := AM (kB (g := gb323) (o := .cells #[.slice none 0 0, .slice none 0 0, .slice none 0 0, .int .i64 0, .int .i64 0] 26 (0, 0)) (by (with_reducible repeat (first | refine kD ?_ _ | refine k1_ ?_ | refine kA ?_ _)); exact BK323.out) hb)
  have n5_ := AM (kB (g := gb324) (o := .cells #[.slice A0_0 l0_0.length c0_0, .slice A0_1 l0_1.length c0_1, .slice A0_2 l0_2.length c0_2, .int .i64 a0_3, .int .i64 a0_4] 26 (0, 0)) (by (with_reducible repeat (first | refine kD ?_ _ | refine k1_ ?_ | refine kA ?_ _)); exact BK324.out) hb)
  have n6_ := AM (bT (by repeat (first | (with_reducible first | exact HB.out | apply bA | apply bD | apply b1 | refine bS ?_ GE322.out | refine bS ?_ GE323.out | refine bS ?_ GE324.out) | exact HB.out)) hb)
  clear HO0_1
  clear HO327
  clear BK322
  clear BK323
  clear BK324
  clear HB
  have HO0_1 := n0_
  have HO327 := n1_
  have HO330 := n2_
  have BK322 := n3_
  have BK323 := n4_
  have BK324 := n5_
  have HB := n6_
  clear n0_ n1_ n2_ n3_ n4_ n5_ n6_
  (try clear hb)
  (try clear hb2)
  (try clear hk)
  (try clear hi)
  (try clear ho0)
  obtain ⟨Ao17, co17, eo17⟩ := Kd.N_slice HO327.out
  (first | subst eo17 | (injection eo17 with f1_ f2_ f3_; have f4_ := f1_.symm; have f5_ := f3_.symm; clear f1_ f2_ f3_; subst f4_; subst f5_))
  obtain ⟨Ao19, co19, eo19⟩ := Kd.R_slice HO330.out
  (first | subst eo19 | (injection eo19 with f1_ f2_ f3_; have f4_ := f1_.symm; have f5_ := f3_.symm; clear f1_ f2_ f3_; subst f4_; subst f5_))
  refine hK.out _ _ ⟨(bC BK322.out 0).trans rfl, (bC BK322.out 1).trans rfl, (bC BK322.out 2).trans rfl, (bC BK322.out 3).trans rfl, (bC BK322.out 4).trans rfl⟩ (fun hHeld => ?_)
  clear hK K
  refine norm_ (a' := ?_) ?_ ?_
  rotate_left
  · show Act.put _ (some 13) _ = _
    simp only [Act.put, List.setIfInBounds_toArray, List.set_cons_zero, List.set_cons_succ, i64_w, i32_w]
    rfl
  refine one_ (i := 7) (N := none) #[true, true, true, true, true, true, true, true, false, false, false, false] rfl rfl (one_of HT_.out (by kernel_rfl)) (by decide) (fun K hK => ?_)
  have hs16 : w15.cell? ⟨gb324, 0, none⟩ = some (.slice A0_0 l0_0.length c0_0) := (bC BK324.out 0).trans rfl
  have hfs16 := bF BK324.out 0
  have hns16_0 := NB322_324.out
  have hns16_1 := NB323_324.out
  have hms16_0 := NB324_322.out
  have hms16_1 := NB324_323.out
  refine skip_ (w1 := ?_) (by rfl) rfl ?_ ?_
  rotate_left
  · go_simp
    rfl
  refine hK.out _ _ ⟨((cell_far (p := ⟨gb324, _, none⟩) NB322_324.out _).trans (hHeld.1)), ((cell_far (p := ⟨gb324, _, none⟩) NB322_324.out _).trans (hHeld.2.1)), ((cell_far (p := ⟨gb324, _, none⟩) NB322_324.out _).trans (hHeld.2.2.1)), ((cell_far (p := ⟨gb324, _, none⟩) NB322_324.out _).trans (hHeld.2.2.2.1)), ((cell_far (p := ⟨gb324, _, none⟩) NB322_324.out _).trans (hHeld.2.2.2.2))⟩ (fun hHeld => ?_)
  clear hK K
  refine pure_ (i := 8) (N := some 15) (v := ?_) (a' := ?_) #[true, true, true, true, true, true, true, true, true, false, false, false] rfl rfl (any_of HT_.out (by kernel_rfl)) (fun _ _ _ h => h) (Or.inl ⟨by rfl, ?_⟩) ?_ ?_
  rotate_left
  · intro w'
    go_simp
    with_reducible rfl
  rotate_left
  · simp only [Act.put, List.setIfInBounds_toArray, List.set_cons_zero, List.set_cons_succ, i64_w, i32_w]
    rfl
  refine one_ (i := 9) (N := none) #[true, true, true, true, true, true, true, true, true, true, false, false] rfl rfl (one_of HT_.out (by kernel_rfl)) (by decide) (fun K hK => ?_)
  have hs18 : w15.cell? ⟨gb324, 1, none⟩ = some (.slice A0_1 l0_1.length c0_1) := (bC BK324.out 1).trans rfl
  have hfs18 := bF BK324.out 1
  have hns18_0 := NB322_324.out
  have hns18_1 := NB323_324.out
  have hms18_0 := NB324_322.out
  have hms18_1 := NB324_323.out
  refine skip_ (w1 := ?_) (by rfl) rfl ?_ ?_
  rotate_left
  · go_simp
    rfl
  refine hK.out _ _ ⟨((cell_far (p := ⟨gb324, _, none⟩) NB322_324.out _).trans (hHeld.1)), ((cell_far (p := ⟨gb324, _, none⟩) NB322_324.out _).trans (hHeld.2.1)), ((cell_far (p := ⟨gb324, _, none⟩) NB322_324.out _).trans (hHeld.2.2.1)), ((cell_far (p := ⟨gb324, _, none⟩) NB322_324.out _).trans (hHeld.2.2.2.1)), ((cell_far (p := ⟨gb324, _, none⟩) NB322_324.out _).trans (hHeld.2.2.2.2))⟩ (fun hHeld => ?_)
  clear hK K
  refine pure_ (i := 10) (N := some 16) (v := ?_) (a' := ?_) #[true, true, true, true, true, true, true, true, true, true, true, false] rfl rfl (any_of HT_.out (by kernel_rfl)) (fun _ _ _ h => h) (Or.inl ⟨by rfl, ?_⟩) ?_ ?_
  rotate_left
  · intro w'
    go_simp
    with_reducible rfl
  rotate_left
  · simp only [Act.put, List.setIfInBounds_toArray, List.set_cons_zero, List.set_cons_succ, i64_w, i32_w]
    rfl
  refine one_ (i := 11) (N := none) #[true, true, true, true, true, true, true, true, true, true, true, true] rfl rfl (one_of HT_.out (by kernel_rfl)) (by decide) (fun K hK => ?_)
  have hs20 : w15.cell? ⟨gb324, 2, none⟩ = some (.slice A0_2 l0_2.length c0_2) := (bC BK324.out 2).trans rfl
  have hfs20 := bF BK324.out 2
  have hns20_0 := NB322_324.out
  have hns20_1 := NB323_324.out
  have hms20_0 := NB324_322.out
  have hms20_1 := NB324_323.out
  refine skip_ (w1 := ?_) (by rfl) rfl ?_ ?_
  rotate_left
  · go_simp
    rfl
  refine hK.out _ _ ⟨((cell_far (p := ⟨gb324, _, none⟩) NB322_324.out _).trans (hHeld.1)), ((cell_far (p := ⟨gb324, _, none⟩) NB322_324.out _).trans (hHeld.2.1)), ((cell_far (p := ⟨gb324, _, none⟩) NB322_324.out _).trans (hHeld.2.2.1)), ((cell_far (p := ⟨gb324, _, none⟩) NB322_324.out _).trans (hHeld.2.2.2.1)), ((cell_far (p := ⟨gb324, _, none⟩) NB322_324.out _).trans (hHeld.2.2.2.2))⟩ (fun hHeld => ?_)
  clear hK K
  refine done_ (done_of HT_.out (by kernel_rfl)) ?_
  have hcz21_0 : w15.cell? ⟨gb322, 0, none⟩ = some (.slice A0_0 l0_0.length c0_0) := (bC BK322.out 0).trans rfl
  have hcz21_1 : w15.cell? ⟨gb322, 1, none⟩ = some (.slice A0_1 l0_1.length c0_1) := (bC BK322.out 1).trans rfl
  have hcz21_2 : w15.cell? ⟨gb322, 2, none⟩ = some (.slice A0_2 l0_2.length c0_2) := (bC BK322.out 2).trans rfl
  have hcz21_3 : w15.cell? ⟨gb322, 3, none⟩ = some (.int .i64 a0_3) := (bC BK322.out 3).trans rfl
  have hcz21_4 : w15.cell? ⟨gb322, 4, none⟩ = some (.int .i64 a0_4) := (bC BK322.out 4).trans rfl
  have hfz21_0 := bF BK322.out 0
  have hfz21_1 := bF BK322.out 1
  have hfz21_2 := bF BK322.out 2
  have hfz21_3 := bF BK322.out 3
  have hfz21_4 := bF BK322.out 4
  try go_wp2
  go_loopg [20] k (fun kq v20 w' => ∃ (x20_1 : Int) (x325000_1 : List (List (S41))) (u325000 : Value), v20 = .int .i64 x20_1 ∧ Aside0 (table_Clone.l0 kq l0_0 (l0_0.length : Int) x20_1 x325000_1 t325 t328 a0_3 a0_4 = some (r1, r2, r3, r4, r5)) ∧ Aside0 (kq ≤ k) ∧ Aside0 (Kd.V k43 49 w' w.heap.size (fun k_ => (P0_1_ k_ ∨ w.heap.size ≤ k_) ∧ some k_ ≠ (u325000 : Value).ownBlock ∧ some k_ ≠ ((.slice Ao17 t325.length co17) : Value).ownBlock ∧ some k_ ≠ ((.slice Ao19 t328.length co19) : Value).ownBlock ∧ k_ ≠ gb322 ∧ k_ ≠ gb323 ∧ k_ ≠ gb324) (.slice A0_1 l0_1.length c0_1) l0_1) ∧ Aside0 (Kd.N (Kd.slice 52 k41) 47 w' w.heap.size (fun k_ => (P0_1_ k_ ∨ w.heap.size ≤ k_) ∧ some k_ ≠ ((.slice Ao17 t325.length co17) : Value).ownBlock ∧ some k_ ≠ ((.slice Ao19 t328.length co19) : Value).ownBlock ∧ k_ ≠ gb322 ∧ k_ ≠ gb323 ∧ k_ ≠ gb324) u325000 x325000_1) ∧ Aside0 (Kd.N k43 49 w' w.heap.size (fun k_ => (P0_1_ k_ ∨ w.heap.size ≤ k_) ∧ some k_ ≠ (u325000 : Value).ownBlock ∧ some k_ ≠ ((.slice Ao19 t328.length co19) : Value).ownBlock ∧ k_ ≠ gb322 ∧ k_ ≠ gb323 ∧ k_ ≠ gb324) (.slice Ao17 t325.length co17) t325) ∧ Aside0 (Kd.R k58 61 w' w.heap.size (fun k_ => (w.heap.size ≤ k_)) (.slice Ao19 t328.length co19) t328) ∧ Aside0 (w'.heap[gb322]? = some (.cells #[(.slice A0_0 l0_0.length c0_0), (.slice A0_1 l0_1.length c0_1), (.slice A0_2 l0_2.length c0_2), .int .i64 a0_3, .int .i64 a0_4] 26 (0, 0))) ∧ Aside0 (w'.heap[gb323]? = some (.cells #[(.slice none 0 0), (.slice none 0 0), (.slice none 0 0), .int .i64 0, .int .i64 0] 26 (0, 0))) ∧ Aside0 (w'.heap[gb324]? = some (.cells #[u325000, (.slice Ao17 t325.length co17), (.slice Ao19 t328.length co19), .int .i64 a0_3, .int .i64 a0_4] 26 (0, 0))) ∧ Aside0 (Below w.heap.size w w'))
  case atStart => exact ⟨(0), (([] : List (List (S41)))), (.slice none 0 0), (by first | rfl | (simp; done) | (simp [*]; done)), H', ⟨Nat.le_refl _⟩, ⟨by (with_reducible repeat (first | apply Kd.V_alloc | apply Kd.V_drewN | apply Kd.V_drew)); exact Kd.V_mono (Kd.V_far (p := ⟨gb324, 2, none⟩) (Kd.V_far (p := ⟨gb324, 1, none⟩) (Kd.V_far (p := ⟨gb324, 0, none⟩) (Kd.V_mono HO0_1.out (fun k_ hk => (⟨hk, hk.1.1.2.2.2⟩ : _ ∧ k_ ≠ gb324))) (fun _ hk => hk.2) (.slice none 0 0)) (fun _ hk => hk.2) (.slice Ao17 t325.length co17)) (fun _ hk => hk.2) (.slice Ao19 t328.length co19)) (fun _ hk => ⟨hk.1.1.1.1, ⟨(by simp [Value.ownBlock]), ⟨hk.1.1.2, ⟨hk.1.2, ⟨hk.1.1.1.2.1, ⟨hk.1.1.1.2.2.1, hk.1.1.1.2.2.2⟩⟩⟩⟩⟩⟩)⟩, ⟨by first | exact Kd.S_nil _ _ _ _ _ | exact Kd.N_nil _ _ _ _ _ | exact Kd.V_nil _ _ _ _ _ | exact Kd.Q_nil _ _ _ _ _ | exact Kd.R_nil _ _ _ _ _⟩, ⟨by (with_reducible repeat (first | apply nA | apply nD | apply n1x)); exact Kd.N_mono (Kd.N_far (p := ⟨gb324, 2, none⟩) (Kd.N_far (p := ⟨gb324, 1, none⟩) (Kd.N_far (p := ⟨gb324, 0, none⟩) (Kd.N_mono HO327.out (fun k_ hk => (⟨hk, hk.1.2.2.2⟩ : _ ∧ k_ ≠ gb324))) (fun _ hk => hk.2) (.slice none 0 0)) (fun _ hk => hk.2) (.slice Ao17 t325.length co17)) (fun _ hk => hk.2) (.slice Ao19 t328.length co19)) (fun _ hk => ⟨hk.1.1.1, ⟨(by simp [Value.ownBlock]), ⟨hk.1.2, ⟨hk.1.1.2.1, ⟨hk.1.1.2.2.1, hk.1.1.2.2.2⟩⟩⟩⟩⟩)⟩, ⟨by (with_reducible repeat (first | apply rA | apply rD | apply r1x)); exact Kd.R_mono (Kd.R_far (p := ⟨gb324, 2, none⟩) (Kd.R_far (p := ⟨gb324, 1, none⟩) (Kd.R_far (p := ⟨gb324, 0, none⟩) (Kd.R_types HO330.out BK324.out (by decide)) (fun _ hk => hk.2) (.slice none 0 0)) (fun _ hk => hk.2) (.slice Ao17 t325.length co17)) (fun _ hk => hk.2) (.slice Ao19 t328.length co19)) (fun _ hk => hk.1.1)⟩, ⟨by (with_reducible repeat (first | refine kD ?_ _ | refine k1_ ?_ | refine kA ?_ _)); refine kF ?_ NB322_324.out _; (with_reducible repeat (first | refine kD ?_ _ | refine k1_ ?_ | refine kA ?_ _)); refine kF ?_ NB322_324.out _; (with_reducible repeat (first | refine kD ?_ _ | refine k1_ ?_ | refine kA ?_ _)); refine kF ?_ NB322_324.out _; (with_reducible repeat (first | refine kD ?_ _ | refine k1_ ?_ | refine kA ?_ _)); exact BK322.out⟩, ⟨by (with_reducible repeat (first | refine kD ?_ _ | refine k1_ ?_ | refine kA ?_ _)); refine kF ?_ NB323_324.out _; (with_reducible repeat (first | refine kD ?_ _ | refine k1_ ?_ | refine kA ?_ _)); refine kF ?_ NB323_324.out _; (with_reducible repeat (first | refine kD ?_ _ | refine k1_ ?_ | refine kA ?_ _)); refine kF ?_ NB323_324.out _; (with_reducible repeat (first | refine kD ?_ _ | refine k1_ ?_ | refine kA ?_ _)); exact BK323.out⟩, ⟨by (with_reducible repeat (first | refine kD ?_ _ | refine k1_ ?_ | refine kA ?_ _)); refine kP (cs := #[.slice none 0 0, .slice Ao17 t325.length co17, .slice A0_2 l0_2.length c0_2, .int .i64 a0_3, .int .i64 a0_4]) ?_ 2 _ rfl; (with_reducible repeat (first | refine kD ?_ _ | refine k1_ ?_ | refine kA ?_ _)); refine kP (cs := #[.slice none 0 0, .slice A0_1 l0_1.length c0_1, .slice A0_2 l0_2.length c0_2, .int .i64 a0_3, .int .i64 a0_4]) ?_ 1 _ rfl; (with_reducible repeat (first | refine kD ?_ _ | refine k1_ ?_ | refine kA ?_ _)); refine kP (cs := #[.slice A0_0 l0_0.length c0_0, .slice A0_1 l0_1.length c0_1, .slice A0_2 l0_2.length c0_2, .int .i64 a0_3, .int .i64 a0_4]) ?_ 0 _ rfl; (with_reducible repeat (first | refine kD ?_ _ | refine k1_ ?_ | refine kA ?_ _)); exact BK324.out⟩, ⟨by repeat (first | (with_reducible first | exact HB.out | apply bA | apply bD | apply b1 | refine bS ?_ GE322.out | refine bS ?_ GE323.out | refine bS ?_ GE324.out) | exact HB.out)⟩⟩
  case round =>
    clear H'
    (try clear c1); (try clear c2); (try clear p2); (try clear c3); (try clear c6); (try clear c9); (try clear c10); (try clear c17); (try clear hcz11_0); (try clear hcz11_1); (try clear hcz11_2); (try clear hcz11_3); (try clear hcz11_4); (try clear hcz21_0); (try clear hcz21_1); (try clear hcz21_2); (try clear hcz21_3); (try clear hcz21_4); (try clear hcz7_0); (try clear hcz7_1); (try clear hcz7_2); (try clear hcz7_3); (try clear hcz7_4); (try clear hfz11_0); (try clear hfz11_1); (try clear hfz11_2); (try clear hfz11_3); (try clear hfz11_4); (try clear hfz21_0); (try clear hfz21_1); (try clear hfz21_2); (try clear hfz21_3); (try clear hfz21_4); (try clear hfz7_0); (try clear hfz7_1); (try clear hfz7_2); (try clear hfz7_3); (try clear hfz7_4)
    (try clear HO_323001); (try clear HO_325000); (try clear HO_325001); (try clear HO_325002); (try clear BK322); (try clear BK323); (try clear BK324); (try clear HB)
    obtain ⟨x20_1, x325000_1, u325000, rfl, HA, HK1, HO_323001, HO_325000, HO_325001, HO_325002, BK322, BK323, BK324, HB⟩ := hrel
    cases gk with
    | zero => exact absurd HA.out (by simp [table_Clone.l0])
    | succ k1 =>
      have H := HA.out
      clear HA
      simp only [table_Clone.l0] at H
      by_cases c22 : x20_1 < (l0_0.length : Int)
      · rw [if_pos c22] at H
        have c22b0 : decide (x20_1 < (l0_0.length : Int)) = true := decide_eq_true c22
        clear c22
        by_cases c23 : 0 ≤ x20_1
        rotate_left
        · rw [if_neg c23] at H
          exact absurd H (by simp)
        rw [if_pos c23] at H
        have c23b0 : decide (0 ≤ x20_1) = true := decide_eq_true c23
        clear c23
        by_cases c24 : x20_1 < (l0_0.length : Int)
        rotate_left
        · rw [if_neg c24] at H
          exact absurd H (by simp)
        rw [if_pos c24] at H
        have c24b0 : decide (x20_1 < (l0_0.length : Int)) = true := decide_eq_true c24
        clear c24
        replace H := Option.bind_eq_some_iff.mp H
        obtain ⟨t332, A250, H⟩ := H
        replace H : (if x325000_1.length < 5864062014805 then (table_Clone.l0 k1 l0_0 (l0_0.length : Int) (wrap64 (x20_1 + 1)) (x325000_1 ++ [t332]) t325 t328 a0_3 a0_4) else (none)) = some (r1, r2, r3, r4, r5) := H
        have A25 := AM A250
        clear A250
        by_cases c26 : x325000_1.length < 5864062014805
        rotate_left
        · rw [if_neg c26] at H
          exact absurd H (by simp)
        rw [if_pos c26] at H
        have LMc26 := AM c26
        clear c26
        obtain ⟨y335, hy335⟩ : ∃ y_ : List (List (S41)), y_ = (x325000_1 ++ [t332]) := ⟨_, rfl⟩
        replace H : (table_Clone.l0 k1 l0_0 (l0_0.length : Int) (wrap64 (x20_1 + 1)) y335 t325 t328 a0_3 a0_4) = some (r1, r2, r3, r4, r5) := by first | (rw [hy335]; with_reducible exact H) | (have H2_ := (Option.bind_some _ _).symm.trans H; rw [hy335]; with_reducible exact H2_) | (have H2_ := (Option.bind_some _ _).symm.trans H; with_reducible exact H2_) | with_reducible exact H | (rw [hy335]; exact H) | exact H
        have Ny335 := AM hy335
        clear hy335
        have H' := AM H
        clear H
        have p331 : 0 ≤ (x20_1 : Int) := of_decide_eq_true (by first | (with_reducible assumption) | assumption)
        have q331 : x20_1 < (l0_0.length : Int) := of_decide_eq_true (by first | (with_reducible assumption) | assumption)
        obtain ⟨ad331, A331_0, c331_0, e331, hx331_0, hl331_0, hi331_0⟩ := at_L2 HR0_0.out x20_1 p331 q331
        cases e331
        replace hx331_0 := (HB.out.cell (bL w _ hx331_0)).trans hx331_0
        have HR331_0 := AM hi331_0
        have HC331_0 := AM hl331_0
        clear hi331_0 hl331_0
        replace p331 := eq_true p331
        replace q331 := eq_true q331
        try go_wp2
        have n0_ := AM (Kd.V_drew HO_323001.out)
        have n1_ := AM (n1x HO_325000.out)
        have n2_ := AM (n1x HO_325001.out)
        have n3_ := AM (r1x HO_325002.out)
        have n4_ := AM (k1_ BK322.out)
        have n5_ := AM (k1_ BK323.out)
        have n6_ := AM (k1_ BK324.out)
        have n7_ := AM (b1 HB.out)
        clear HO_323001
        clear HO_325000
        clear HO_325001
        clear HO_325002
        clear BK322
        clear BK323
        clear BK324
        clear HB
        have HO_323001 := n0_
        have HO_325000 := n1_
        have HO_325001 := n2_
        have HO_325002 := n3_
        have BK322 := n4_
        have BK323 := n5_
        have BK324 := n6_
        have HB := n7_
        clear n0_ n1_ n2_ n3_ n4_ n5_ n6_ n7_
        refine start_ (n := 8) (S := fun w' => w'.cell? ⟨gb324, 0, none⟩ = some (u325000) ∧ w'.cell? ⟨gb324, 1, none⟩ = some (.slice Ao17 t325.length co17) ∧ w'.cell? ⟨gb324, 2, none⟩ = some (.slice Ao19 t328.length co19) ∧ w'.cell? ⟨gb324, 3, none⟩ = some (.int .i64 a0_3) ∧ w'.cell? ⟨gb324, 4, none⟩ = some (.int .i64 a0_4)) (ds := [7]) #[false, false, false, false, false, false, false, false] (by kernel_rfl) rfl rfl ⟨(bC BK324.out 0).trans rfl, (bC BK324.out 1).trans rfl, (bC BK324.out 2).trans rfl, (bC BK324.out 3).trans rfl, (bC BK324.out 4).trans rfl⟩ (fun hHeld => ?_); refine with_tabW table_Clone.tab6 table_Clone.bits6 (fun HT_ HW_ => ?_)
        generalize wr.drew = w27 at HO_323001 HO_325000 HO_325001 HO_325002 BK322 BK323 BK324 HB hHeld ⊢
        refine pure_ (i := 0) (N := some 24) (v := ?_) (a' := ?_) #[true, false, false, false, false, false, false, false] rfl rfl (any_of HT_.out (by kernel_rfl)) (fun _ _ _ h => h) (Or.inl ⟨by rfl, ?_⟩) ?_ ?_
        rotate_left
        · intro w'
          go_simp
          with_reducible rfl
        rotate_left
        · simp only [Act.put, List.setIfInBounds_toArray, List.set_cons_zero, List.set_cons_succ, i64_w, i32_w]
          rfl
        refine pure_ (i := 2) (N := some 26) (v := ?_) (a' := ?_) #[true, false, true, false, false, false, false, false] rfl rfl (any_of HT_.out (by kernel_rfl)) (fun _ _ _ h => h) (Or.inl ⟨by rfl, ?_⟩) ?_ ?_
        rotate_left
        · intro w'
          go_simp
          with_reducible rfl
        rotate_left
        · simp only [Act.put, List.setIfInBounds_toArray, List.set_cons_zero, List.set_cons_succ, i64_w, i32_w]
          rfl
        refine take_ (i := 1) (N := some 25) (v := ?_) (a' := ?_) #[true, true, true, false, false, false, false, false] rfl rfl (take_ofW HT_.out HW_.out (by kernel_rfl)) (fun _ _ _ h => h) (Or.inl ⟨by rfl, ?_⟩) hHeld ?_ ?_
        rotate_left
        · rintro w' ⟨s0, s1, s2, s3, s4⟩
          go_simp
          with_reducible rfl
        rotate_left
        · simp only [Act.put, List.setIfInBounds_toArray, List.set_cons_zero, List.set_cons_succ, i64_w, i32_w]
          rfl
        refine one_ (i := 3) (N := some 27) #[true, true, true, true, false, false, false, false] rfl rfl (one_of HT_.out (by kernel_rfl)) (by decide) (fun K hK => ?_)
        refine goes_ Tryd.func29 (by kernel_rfl) rfl #[.slice A331_0 (rd_L2 l0_0 x20_1).length c331_0] (by rfl) rfl rfl (by (try simp only [List.map_toArray, List.map_cons, List.map_nil]); first | done | rfl | (simp only [List.length_drop, List.length_take]; rfl)) ?_
        with_reducible refine (api_Band_31.calls _ _ (rd_L2 l0_0 x20_1) t332 _ ?side1 ?side2 A25.out).mono ?_
        (case side1 => repeat (first | exact (cB HR331_0.out HB.out) | (with_reducible refine cA ?_ _) | (with_reducible refine cD ?_ _) | (with_reducible refine c1_ ?_)))
        (case side2 => exact HC331_0.out)
        rintro e w28 ⟨v333, rfl, ho0, hb⟩
        refine ⟨_, rfl, ?_⟩
        have n0_ := AM (Kd.V_elder' (by (with_reducible repeat (first | apply Kd.V_alloc | apply Kd.V_drewN | apply Kd.V_drew)); exact HO_323001.out) (Kd.R_base ho0) hb)
        have n1_ := AM (Kd.N_elder' (by (with_reducible repeat (first | apply nA | apply nD | apply n1x)); exact HO_325000.out) (Kd.R_base ho0) hb)
        have n2_ := AM (Kd.N_elder' (by (with_reducible repeat (first | apply nA | apply nD | apply n1x)); exact HO_325001.out) (Kd.R_base ho0) hb)
        have n3_ := AM (Kd.R_below (by (with_reducible repeat (first | apply rA | apply rD | apply r1x)); exact HO_325002.out) hb)
        have n4_ := AM (Kd.R_lower (Kd.R_newM (M := fun k_ => (w.heap.size ≤ k_)) ho0 (bZ (by repeat (first | (with_reducible first | exact HB.out | apply bA | apply bD | apply b1 | refine bS ?_ GE322.out | refine bS ?_ GE323.out | refine bS ?_ GE324.out) | exact HB.out))) (fun k_ h_ => h_)) (bZ (by repeat (first | (with_reducible first | exact HB.out | apply bA | apply bD | apply b1 | refine bS ?_ GE322.out | refine bS ?_ GE323.out | refine bS ?_ GE324.out) | exact HB.out))))
        have n5_ := AM (kB (g := gb322) (o := .cells #[.slice (some ad331) l0_0.length c0_0, .slice A0_1 l0_1.length c0_1, .slice A0_2 l0_2.length c0_2, .int .i64 a0_3, .int .i64 a0_4] 26 (0, 0)) (by (with_reducible repeat (first | refine kD ?_ _ | refine k1_ ?_ | refine kA ?_ _)); exact BK322.out) hb)
        have n6_ := AM (kB (g := gb323) (o := .cells #[.slice none 0 0, .slice none 0 0, .slice none 0 0, .int .i64 0, .int .i64 0] 26 (0, 0)) (by (with_reducible repeat (first | refine kD ?_ _ | refine k1_ ?_ | refine kA ?_ _)); exact BK323.out) hb)
        have n7_ := AM (kB (g := gb324) (o := .cells #[u325000, .slice Ao17 t325.length co17, .slice Ao19 t328.length co19, .int .i64 a0_3, .int .i64 a0_4] 26 (0, 0)) (by (with_reducible repeat (first | refine kD ?_ _ | refine k1_ ?_ | refine kA ?_ _)); exact BK324.out) hb)
        have n8_ := AM (bT (by repeat (first | (with_reducible first | exact HB.out | apply bA | apply bD | apply b1 | refine bS ?_ GE322.out | refine bS ?_ GE323.out | refine bS ?_ GE324.out) | exact HB.out)) hb)
        clear HO_323001
        clear HO_325000
        clear HO_325001
        clear HO_325002
        clear BK322
        clear BK323
        clear BK324
        clear HB
        have HO_323001 := n0_
        have HO_325000 := n1_
        have HO_325001 := n2_
        have HO_325002 := n3_
        have HO334 := n4_
        have BK322 := n5_
        have BK323 := n6_
        have BK324 := n7_
        have HB := n8_
        clear n0_ n1_ n2_ n3_ n4_ n5_ n6_ n7_ n8_
        (try clear hb)
        (try clear hb2)
        (try clear hk)
        (try clear hi)
        (try clear ho0)
        obtain ⟨Ao30, co30, eo30⟩ := Kd.R_slice HO334.out
        (first | subst eo30 | (injection eo30 with f1_ f2_ f3_; have f4_ := f1_.symm; have f5_ := f3_.symm; clear f1_ f2_ f3_; subst f4_; subst f5_))
        refine hK.out _ _ ⟨(bC BK324.out 0).trans rfl, (bC BK324.out 1).trans rfl, (bC BK324.out 2).trans rfl, (bC BK324.out 3).trans rfl, (bC BK324.out 4).trans rfl⟩ (fun hHeld => ?_)
        clear hK K
        refine norm_ (a' := ?_) ?_ ?_
        rotate_left
        · show Act.put _ (some 27) _ = _
          simp only [Act.put, List.setIfInBounds_toArray, List.set_cons_zero, List.set_cons_succ, i64_w, i32_w]
          rfl
        refine one_ (i := 4) (N := some 28) #[true, true, true, true, true, false, false, false] rfl rfl (one_of HT_.out (by kernel_rfl)) (by decide) (fun K hK => ?_)
        refine value_ (w1 := ?_) (v := ?_) (by rfl) rfl ?_ ?_
        rotate_left 2
        · go_simp
          constructor
          · rfl
          · rfl
        refine hK.out _ _ ⟨(bC (kA BK324.out _) 0).trans rfl, (bC (kA BK324.out _) 1).trans rfl, (bC (kA BK324.out _) 2).trans rfl, (bC (kA BK324.out _) 3).trans rfl, (bC (kA BK324.out _) 4).trans rfl⟩ (fun hHeld => ?_)
        clear hK K
        refine norm_ (a' := ?_) ?_ ?_
        rotate_left
        · show Act.put _ (some 28) _ = _
          simp only [Act.put, List.setIfInBounds_toArray, List.set_cons_zero, List.set_cons_succ, i64_w, i32_w]
          rfl
        refine one_ (i := 5) (N := some 29) #[true, true, true, true, true, true, false, false] rfl rfl (one_of HT_.out (by kernel_rfl)) (by decide) (fun K hK => ?_)
        refine Kd.N_append_step (Kd.slice 52 k41) (w0 := w) w.heap.size (by rfl) (.tmp 25) (.tmp 28) 22 47 (.slice none 0 0) 24 rfl Tryd.underlying22 info39 rfl (by decide) (by omega) u325000 x325000_1 t332 [.slice Ao30 t332.length co30] (fun k_ => (P0_1_ k_ ∨ w.heap.size ≤ k_) ∧ some k_ ≠ (.slice Ao17 t325.length co17 : Value).ownBlock ∧ some k_ ≠ (.slice Ao19 t328.length co19 : Value).ownBlock ∧ k_ ≠ gb322 ∧ k_ ≠ gb323 ∧ k_ ≠ gb324) (fun k_ => ((fun k_ => (P0_1_ k_ ∨ w.heap.size ≤ k_) ∧ some k_ ≠ (.slice Ao17 t325.length co17 : Value).ownBlock ∧ some k_ ≠ (.slice Ao19 t328.length co19 : Value).ownBlock ∧ k_ ≠ gb322 ∧ k_ ≠ gb323 ∧ k_ ≠ gb324)) k_ ∧ some k_ ≠ (u325000 : Value).ownBlock) rfl rfl ?aP (fun _ hk => hk) ?aF ?aO ?aB ?aS ?aL ?_
        (case aP => exact (Kd.FK_slice_mk (Kd.R_reads' (Kd.R_mono (ok' := (fun k_ => ((fun k_ => (P0_1_ k_ ∨ w.heap.size ≤ k_) ∧ some k_ ≠ (.slice Ao17 t325.length co17 : Value).ownBlock ∧ some k_ ≠ (.slice Ao19 t328.length co19 : Value).ownBlock ∧ k_ ≠ gb322 ∧ k_ ≠ gb323 ∧ k_ ≠ gb324)) k_ ∧ some k_ ≠ (u325000 : Value).ownBlock)) (Kd.R_types (Kd.R_types (Kd.R_types (Kd.R_apart' (Kd.R_apart' (Kd.R_apart' (HO334.out) (Kd.N_typed HO_325001.out) (by decide)) (Kd.R_typed HO_325002.out) (by decide)) (Kd.N_typed HO_325000.out) (by decide)) BK322.out (by decide)) BK323.out (by decide)) BK324.out (by decide)) (fun k_ hk => ⟨⟨(.inr (hk.1.1.1.1.1.1.1)), ⟨hk.1.1.1.1.1.2, ⟨hk.1.1.1.1.2, ⟨hk.1.1.2, ⟨hk.1.2, hk.2⟩⟩⟩⟩⟩, hk.1.1.1.2⟩))).2.1 (Kd.R_F (Kd.R_mono (ok' := (fun k_ => ((fun k_ => (P0_1_ k_ ∨ w.heap.size ≤ k_) ∧ some k_ ≠ (.slice Ao17 t325.length co17 : Value).ownBlock ∧ some k_ ≠ (.slice Ao19 t328.length co19 : Value).ownBlock ∧ k_ ≠ gb322 ∧ k_ ≠ gb323 ∧ k_ ≠ gb324)) k_ ∧ some k_ ≠ (u325000 : Value).ownBlock)) (Kd.R_types (Kd.R_types (Kd.R_types (Kd.R_apart' (Kd.R_apart' (Kd.R_apart' (HO334.out) (Kd.N_typed HO_325001.out) (by decide)) (Kd.R_typed HO_325002.out) (by decide)) (Kd.N_typed HO_325000.out) (by decide)) BK322.out (by decide)) BK323.out (by decide)) BK324.out (by decide)) (fun k_ hk => ⟨⟨(.inr (hk.1.1.1.1.1.1.1)), ⟨hk.1.1.1.1.1.2, ⟨hk.1.1.1.1.2, ⟨hk.1.1.2, ⟨hk.1.2, hk.2⟩⟩⟩⟩⟩, hk.1.1.1.2⟩)))))
        (case aB => exact (by repeat (first | (with_reducible first | exact HB.out | apply bA | apply bD | apply b1 | refine bS ?_ GE322.out | refine bS ?_ GE323.out | refine bS ?_ GE324.out) | exact HB.out)))
        (case aF => exact (fun k_ hk => ⟨(.inr (Nat.le_trans (bZ (by repeat (first | (with_reducible first | exact HB.out | apply bA | apply bD | apply b1 | refine bS ?_ GE322.out | refine bS ?_ GE323.out | refine bS ?_ GE324.out) | exact HB.out))) hk)), Kd.fresh' (Kd.N_lt (by (with_reducible repeat (first | apply nA | apply nD | apply n1x)); exact HO_325001.out)) k_ hk, Kd.fresh' (Kd.R_lt (by (with_reducible repeat (first | apply rA | apply rD | apply r1x)); exact HO_325002.out)) k_ hk, Kd.freshB (g := gb322) (o := .cells #[.slice (some ad331) l0_0.length c0_0, .slice A0_1 l0_1.length c0_1, .slice A0_2 l0_2.length c0_2, .int .i64 a0_3, .int .i64 a0_4] 26 (0, 0)) (by (with_reducible repeat (first | refine kD ?_ _ | refine k1_ ?_ | refine kA ?_ _)); exact BK322.out) k_ hk, Kd.freshB (g := gb323) (o := .cells #[.slice none 0 0, .slice none 0 0, .slice none 0 0, .int .i64 0, .int .i64 0] 26 (0, 0)) (by (with_reducible repeat (first | refine kD ?_ _ | refine k1_ ?_ | refine kA ?_ _)); exact BK323.out) k_ hk, Kd.freshB (g := gb324) (o := .cells #[u325000, .slice Ao17 t325.length co17, .slice Ao19 t328.length co19, .int .i64 a0_3, .int .i64 a0_4] 26 (0, 0)) (by (with_reducible repeat (first | refine kD ?_ _ | refine k1_ ?_ | refine kA ?_ _)); exact BK324.out) k_ hk⟩))
        (case aO => exact (by (with_reducible repeat (first | apply nA | apply nD | apply n1x)); exact Kd.N_mono HO_325000.out (fun _ hk => ⟨hk.1.1, ⟨hk.1.2.1, ⟨hk.1.2.2.1, ⟨hk.1.2.2.2.1, ⟨hk.1.2.2.2.2.1, hk.1.2.2.2.2.2⟩⟩⟩⟩⟩)))
        (case aS => exact (bZ (by repeat (first | (with_reducible first | exact HB.out | apply bA | apply bD | apply b1 | refine bS ?_ GE322.out | refine bS ?_ GE323.out | refine bS ?_ GE324.out) | exact HB.out))))
        (case aL => have := LMc26.out; omega)
        intro v336 w29 ho hb hg hat
        rw [← Ny335.out] at ho
        have n0_ := AM (Kd.V_afterv (ok := (fun k_ => (P0_1_ k_ ∨ w.heap.size ≤ k_) ∧ some k_ ≠ (.slice Ao17 t325.length co17 : Value).ownBlock ∧ some k_ ≠ (.slice Ao19 t328.length co19 : Value).ownBlock ∧ some k_ ≠ (.slice Ao30 t332.length co30 : Value).ownBlock ∧ k_ ≠ gb322 ∧ k_ ≠ gb323 ∧ k_ ≠ gb324)) (by (with_reducible repeat (first | apply Kd.V_alloc | apply Kd.V_drewN | apply Kd.V_drew)); exact Kd.V_mono HO_323001.out (fun _ hk => ⟨⟨hk.1.1, ⟨hk.1.2.2.1, ⟨hk.1.2.2.2.1, ⟨hk.2, ⟨hk.1.2.2.2.2.1, ⟨hk.1.2.2.2.2.2.1, hk.1.2.2.2.2.2.2⟩⟩⟩⟩⟩⟩, hk.1.2.1⟩)) hg hat)
        have n1_ := AM (Kd.N_afterv (ok := (fun k_ => (P0_1_ k_ ∨ w.heap.size ≤ k_) ∧ some k_ ≠ (.slice Ao19 t328.length co19 : Value).ownBlock ∧ some k_ ≠ (.slice Ao30 t332.length co30 : Value).ownBlock ∧ k_ ≠ gb322 ∧ k_ ≠ gb323 ∧ k_ ≠ gb324)) (by (with_reducible repeat (first | apply nA | apply nD | apply n1x)); exact Kd.N_mono HO_325001.out (fun _ hk => ⟨⟨hk.1.1, ⟨hk.1.2.2.1, ⟨hk.2, ⟨hk.1.2.2.2.1, ⟨hk.1.2.2.2.2.1, hk.1.2.2.2.2.2⟩⟩⟩⟩⟩, hk.1.2.1⟩)) hg hat)
        have n2_ := AM (Kd.R_over' (by (with_reducible repeat (first | apply rA | apply rD | apply r1x)); exact HO_325002.out) (Kd.N_typed (by (with_reducible repeat (first | apply nA | apply nD | apply n1x)); exact HO_325000.out)) (by decide) hg)
        have n3_ := AM (blk_grown (g := gb322) (o := .cells #[.slice (some ad331) l0_0.length c0_0, .slice A0_1 l0_1.length c0_1, .slice A0_2 l0_2.length c0_2, .int .i64 a0_3, .int .i64 a0_4] 26 (0, 0)) (by (with_reducible repeat (first | refine kD ?_ _ | refine k1_ ?_ | refine kA ?_ _)); exact BK322.out) hg (Kd.N_ne HO_325000.out BK322.out (by decide)))
        have n4_ := AM (blk_grown (g := gb323) (o := .cells #[.slice none 0 0, .slice none 0 0, .slice none 0 0, .int .i64 0, .int .i64 0] 26 (0, 0)) (by (with_reducible repeat (first | refine kD ?_ _ | refine k1_ ?_ | refine kA ?_ _)); exact BK323.out) hg (Kd.N_ne HO_325000.out BK323.out (by decide)))
        have n5_ := AM (blk_grown (g := gb324) (o := .cells #[u325000, .slice Ao17 t325.length co17, .slice Ao19 t328.length co19, .int .i64 a0_3, .int .i64 a0_4] 26 (0, 0)) (by (with_reducible repeat (first | refine kD ?_ _ | refine k1_ ?_ | refine kA ?_ _)); exact BK324.out) hg (Kd.N_ne HO_325000.out BK324.out (by decide)))
        have n6_ := AM (hb)
        have n7_ := AM (ho)
        clear HO_323001
        clear HO_325001
        clear HO_325002
        clear BK322
        clear BK323
        clear BK324
        clear HB
        clear HO_325000
        clear HO334
        have HO_323001 := n0_
        have HO_325001 := n1_
        have HO_325002 := n2_
        have BK322 := n3_
        have BK323 := n4_
        have BK324 := n5_
        have HB := n6_
        have HO337 := n7_
        clear n0_ n1_ n2_ n3_ n4_ n5_ n6_ n7_
        clear ho hb hg hat
        obtain ⟨Ao31, co31, eo31⟩ := Kd.N_slice HO337.out
        (first | subst eo31 | (injection eo31 with f1_ f2_ f3_; have f4_ := f1_.symm; have f5_ := f3_.symm; clear f1_ f2_ f3_; subst f4_; subst f5_))
        refine hK.out _ _ ⟨(bC BK324.out 0).trans rfl, (bC BK324.out 1).trans rfl, (bC BK324.out 2).trans rfl, (bC BK324.out 3).trans rfl, (bC BK324.out 4).trans rfl⟩ (fun hHeld => ?_)
        clear hK K
        refine norm_ (a' := ?_) ?_ ?_
        rotate_left
        · show Act.put _ (some 29) _ = _
          simp only [Act.put, List.setIfInBounds_toArray, List.set_cons_zero, List.set_cons_succ, i64_w, i32_w]
          rfl
        refine pure_ (i := 6) (N := some 30) (v := ?_) (a' := ?_) #[true, true, true, true, true, true, true, false] rfl rfl (any_of HT_.out (by kernel_rfl)) (fun _ _ _ h => h) (Or.inl ⟨by rfl, ?_⟩) ?_ ?_
        rotate_left
        · intro w'
          go_simp
          with_reducible rfl
        rotate_left
        · simp only [Act.put, List.setIfInBounds_toArray, List.set_cons_zero, List.set_cons_succ, i64_w, i32_w]
          rfl
        refine last_ (i := 7) (N := none) #[true, true, true, true, true, true, true, true] rfl rfl (one_of HT_.out (by kernel_rfl)) (by decide) (fun K hK => ?_)
        have hs32 : w29.cell? ⟨gb324, 0, none⟩ = some (u325000) := (bC BK324.out 0).trans rfl
        have hfs32 := bF BK324.out 0
        have hns32_0 := NB322_324.out
        have hns32_1 := NB323_324.out
        have hms32_0 := NB324_322.out
        have hms32_1 := NB324_323.out
        refine skip_ (w1 := ?_) (by rfl) rfl ?_ ?_
        rotate_left
        · go_simp
          rfl
        refine hK.out _ _ ?_
        clear hK K
        refine done_ (done_of HT_.out (by kernel_rfl)) ?_
        try go_wp2
        go_roundg k1
        case measure => have := HK1.out; omega
        case rel => exact ⟨(wrap64 (x20_1 + 1)), (y335), (.slice Ao31 y335.length co31), (by first | rfl | (simp; done) | (simp [*]; done)), H', ⟨by have := HK1.out; omega⟩, ⟨by (with_reducible repeat (first | apply Kd.V_alloc | apply Kd.V_drewN | apply Kd.V_drew)); exact Kd.V_mono (Kd.V_far (p := ⟨gb324, 0, none⟩) (Kd.V_mono HO_323001.out (fun k_ hk => (⟨hk, hk.1.2.2.2.2.2.2⟩ : _ ∧ k_ ≠ gb324))) (fun _ hk => hk.2) (.slice Ao31 y335.length co31)) (fun _ hk => ⟨hk.1.1.1, ⟨hk.1.2, ⟨hk.1.1.2.1, ⟨hk.1.1.2.2.1, ⟨hk.1.1.2.2.2.2.1, ⟨hk.1.1.2.2.2.2.2.1, hk.1.1.2.2.2.2.2.2⟩⟩⟩⟩⟩⟩)⟩, ⟨by (with_reducible repeat (first | apply nA | apply nD | apply n1x)); exact Kd.N_mono (Kd.N_far (p := ⟨gb324, 0, none⟩) (Kd.N_mono HO337.out (fun k_ hk => (⟨hk, hk.2.2.2.2.2⟩ : _ ∧ k_ ≠ gb324))) (fun _ hk => hk.2) (.slice Ao31 y335.length co31)) (fun _ hk => ⟨hk.1.1, ⟨hk.1.2.1, ⟨hk.1.2.2.1, ⟨hk.1.2.2.2.1, ⟨hk.1.2.2.2.2.1, hk.1.2.2.2.2.2⟩⟩⟩⟩⟩)⟩, ⟨by (with_reducible repeat (first | apply nA | apply nD | apply n1x)); exact Kd.N_mono (Kd.N_far (p := ⟨gb324, 0, none⟩) (Kd.N_mono HO_325001.out (fun k_ hk => (⟨hk, hk.1.2.2.2.2.2⟩ : _ ∧ k_ ≠ gb324))) (fun _ hk => hk.2) (.slice Ao31 y335.length co31)) (fun _ hk => ⟨hk.1.1.1, ⟨hk.1.2, ⟨hk.1.1.2.1, ⟨hk.1.1.2.2.2.1, ⟨hk.1.1.2.2.2.2.1, hk.1.1.2.2.2.2.2⟩⟩⟩⟩⟩)⟩, ⟨by (with_reducible repeat (first | apply rA | apply rD | apply r1x)); exact Kd.R_mono (Kd.R_far (p := ⟨gb324, 0, none⟩) (Kd.R_types HO_325002.out BK324.out (by decide)) (fun _ hk => hk.2) (.slice Ao31 y335.length co31)) (fun _ hk => hk.1)⟩, ⟨by (with_reducible repeat (first | refine kD ?_ _ | refine k1_ ?_ | refine kA ?_ _)); refine kF ?_ NB322_324.out _; (with_reducible repeat (first | refine kD ?_ _ | refine k1_ ?_ | refine kA ?_ _)); exact BK322.out⟩, ⟨by (with_reducible repeat (first | refine kD ?_ _ | refine k1_ ?_ | refine kA ?_ _)); refine kF ?_ NB323_324.out _; (with_reducible repeat (first | refine kD ?_ _ | refine k1_ ?_ | refine kA ?_ _)); exact BK323.out⟩, ⟨by (with_reducible repeat (first | refine kD ?_ _ | refine k1_ ?_ | refine kA ?_ _)); refine kP (cs := #[u325000, .slice Ao17 t325.length co17, .slice Ao19 t328.length co19, .int .i64 a0_3, .int .i64 a0_4]) ?_ 0 _ rfl; (with_reducible repeat (first | refine kD ?_ _ | refine k1_ ?_ | refine kA ?_ _)); exact BK324.out⟩, ⟨by repeat (first | (with_reducible first | exact HB.out | apply bA | apply bD | apply b1 | refine bS ?_ GE322.out | refine bS ?_ GE323.out | refine bS ?_ GE324.out) | exact HB.out)⟩⟩
      rw [if_neg c22] at H
      have c22b0 : decide (x20_1 < (l0_0.length : Int)) = false := decide_eq_false c22
      clear c22
      have H' := AM H
      clear H
      have hnb33 := NB324_322.out
      have hnc33 := NB322_324.out
      have hnb34 := NB324_323.out
      have hnc34 := NB323_324.out
      have hcz35_0 : wr.cell? ⟨gb324, 0, none⟩ = some (u325000) := (bC BK324.out 0).trans rfl
      have hcz35_1 : wr.cell? ⟨gb324, 1, none⟩ = some (.slice Ao17 t325.length co17) := (bC BK324.out 1).trans rfl
      have hcz35_2 : wr.cell? ⟨gb324, 2, none⟩ = some (.slice Ao19 t328.length co19) := (bC BK324.out 2).trans rfl
      have hcz35_3 : wr.cell? ⟨gb324, 3, none⟩ = some (.int .i64 a0_3) := (bC BK324.out 3).trans rfl
      have hcz35_4 : wr.cell? ⟨gb324, 4, none⟩ = some (.int .i64 a0_4) := (bC BK324.out 4).trans rfl
      have hfz35_0 := bF BK324.out 0
      have hfz35_1 := bF BK324.out 1
      have hfz35_2 := bF BK324.out 2
      have hfz35_3 := bF BK324.out 3
      have hfz35_4 := bF BK324.out 4
      go_wp2
      go_loopg [35] k1 (fun kq v35 w' => ∃ (x35_2 : Int) (x323001_2 : List (S43)) (x325001_2 : List (S43)) (u323001 : Value) (u325001 : Value), v35 = .int .i64 x35_2 ∧ Aside0 (table_Clone.l1 kq (t325.length : Int) x35_2 x325000_1 x325001_2 t328 a0_3 a0_4 = some (r1, r2, r3, r4, r5)) ∧ Aside0 (kq ≤ k1) ∧ Aside0 (Kd.V k43 49 w' w.heap.size (fun k_ => (P0_1_ k_ ∨ w.heap.size ≤ k_) ∧ some k_ ≠ (u325000 : Value).ownBlock ∧ some k_ ≠ (u325001 : Value).ownBlock ∧ some k_ ≠ ((.slice Ao19 t328.length co19) : Value).ownBlock ∧ k_ ≠ gb322 ∧ k_ ≠ gb323 ∧ k_ ≠ gb324) u323001 x323001_2) ∧ Aside0 (Kd.N (Kd.slice 52 k41) 47 w' w.heap.size (fun k_ => (P0_1_ k_ ∨ w.heap.size ≤ k_) ∧ some k_ ≠ (u325001 : Value).ownBlock ∧ some k_ ≠ ((.slice Ao19 t328.length co19) : Value).ownBlock ∧ k_ ≠ gb322 ∧ k_ ≠ gb323 ∧ k_ ≠ gb324) u325000 x325000_1) ∧ Aside0 (Kd.N k43 49 w' w.heap.size (fun k_ => (P0_1_ k_ ∨ w.heap.size ≤ k_) ∧ some k_ ≠ (u325000 : Value).ownBlock ∧ some k_ ≠ ((.slice Ao19 t328.length co19) : Value).ownBlock ∧ k_ ≠ gb322 ∧ k_ ≠ gb323 ∧ k_ ≠ gb324) u325001 x325001_2) ∧ Aside0 (Kd.R k58 61 w' w.heap.size (fun k_ => (w.heap.size ≤ k_)) (.slice Ao19 t328.length co19) t328) ∧ Aside0 (w'.heap[gb322]? = some (.cells #[(.slice A0_0 l0_0.length c0_0), u323001, (.slice A0_2 l0_2.length c0_2), .int .i64 a0_3, .int .i64 a0_4] 26 (0, 0))) ∧ Aside0 (w'.heap[gb323]? = some (.cells #[(.slice none 0 0), (.slice none 0 0), (.slice none 0 0), .int .i64 0, .int .i64 0] 26 (0, 0))) ∧ Aside0 (w'.heap[gb324]? = some (.cells #[u325000, u325001, (.slice Ao19 t328.length co19), .int .i64 a0_3, .int .i64 a0_4] 26 (0, 0))) ∧ Aside0 (Below w.heap.size w w'))
      case atStart => exact ⟨(0), (l0_1), (t325), (.slice A0_1 l0_1.length c0_1), (.slice Ao17 t325.length co17), (by first | rfl | (simp; done) | (simp [*]; done)), H', ⟨Nat.le_refl _⟩, ⟨by (with_reducible repeat (first | apply Kd.V_alloc | apply Kd.V_drewN | apply Kd.V_drew)); exact HO_323001.out⟩, ⟨by (with_reducible repeat (first | apply nA | apply nD | apply n1x)); exact HO_325000.out⟩, ⟨by (with_reducible repeat (first | apply nA | apply nD | apply n1x)); exact HO_325001.out⟩, ⟨by (with_reducible repeat (first | apply rA | apply rD | apply r1x)); exact HO_325002.out⟩, ⟨by (with_reducible repeat (first | refine kD ?_ _ | refine k1_ ?_ | refine kA ?_ _)); exact BK322.out⟩, ⟨by (with_reducible repeat (first | refine kD ?_ _ | refine k1_ ?_ | refine kA ?_ _)); exact BK323.out⟩, ⟨by (with_reducible repeat (first | refine kD ?_ _ | refine k1_ ?_ | refine kA ?_ _)); exact BK324.out⟩, ⟨by repeat (first | (with_reducible first | exact HB.out | apply bA | apply bD | apply b1 | refine bS ?_ GE322.out | refine bS ?_ GE323.out | refine bS ?_ GE324.out) | exact HB.out)⟩⟩
      case round =>
        clear H'
        (try clear c1); (try clear c2); (try clear p2); (try clear c3); (try clear p3); (try clear q3); (try clear hx3); (try clear c6); (try clear p6); (try clear c9); (try clear c10); (try clear c17); (try clear c22); (try clear c22b0); (try clear c23); (try clear c23b0); (try clear c24); (try clear c24b0); (try clear c26); (try clear c29); (try clear c30); (try clear c31); (try clear c33); (try clear p33); (try clear q33); (try clear hx33); (try clear c34); (try clear hcz11_0); (try clear hcz11_1); (try clear hcz11_2); (try clear hcz11_3); (try clear hcz11_4); (try clear hcz21_0); (try clear hcz21_1); (try clear hcz21_2); (try clear hcz21_3); (try clear hcz21_4); (try clear hcz35_0); (try clear hcz35_1); (try clear hcz35_2); (try clear hcz35_3); (try clear hcz35_4); (try clear hcz7_0); (try clear hcz7_1); (try clear hcz7_2); (try clear hcz7_3); (try clear hcz7_4); (try clear hfz11_0); (try clear hfz11_1); (try clear hfz11_2); (try clear hfz11_3); (try clear hfz11_4); (try clear hfz21_0); (try clear hfz21_1); (try clear hfz21_2); (try clear hfz21_3); (try clear hfz21_4); (try clear hfz35_0); (try clear hfz35_1); (try clear hfz35_2); (try clear hfz35_3); (try clear hfz35_4); (try clear hfz7_0); (try clear hfz7_1); (try clear hfz7_2); (try clear hfz7_3); (try clear hfz7_4); (try clear hx331_0); (try clear p2); (try clear p331); (try clear q331)
        (try clear HO_323001); (try clear HO_325000); (try clear HO_325001); (try clear HO_325002); (try clear BK322); (try clear BK323); (try clear BK324); (try clear HB)
        obtain ⟨x35_2, x323001_2, x325001_2, u323001, u325001, rfl, HA, HK2, HO_323001, HO_325000, HO_325001, HO_325002, BK322, BK323, BK324, HB⟩ := hrel
        cases gk with
        | zero => exact absurd HA.out (by simp [table_Clone.l1])
        | succ k2 =>
          have H := HA.out
          clear HA
          simp only [table_Clone.l1] at H
          by_cases c36 : x35_2 < (t325.length : Int)
          rotate_left
          · rw [if_neg c36] at H
            have c36b0 : decide (x35_2 < (t325.length : Int)) = false := decide_eq_false c36
            clear c36
            simp only [Option.some.injEq, Prod.mk.injEq] at H
            obtain ⟨rfl, rfl, rfl, rfl, rfl⟩ := H
            have hnb45 := NB324_322.out
            have hnc45 := NB322_324.out
            have hnb46 := NB324_323.out
            have hnc46 := NB323_324.out
            have hcz47_0 : wr.cell? ⟨gb324, 0, none⟩ = some (u325000) := (bC BK324.out 0).trans rfl
            have hcz47_1 : wr.cell? ⟨gb324, 1, none⟩ = some (u325001) := (bC BK324.out 1).trans rfl
            have hcz47_2 : wr.cell? ⟨gb324, 2, none⟩ = some (.slice Ao19 t328.length co19) := (bC BK324.out 2).trans rfl
            have hcz47_3 : wr.cell? ⟨gb324, 3, none⟩ = some (.int .i64 a0_3) := (bC BK324.out 3).trans rfl
            have hcz47_4 : wr.cell? ⟨gb324, 4, none⟩ = some (.int .i64 a0_4) := (bC BK324.out 4).trans rfl
            have hfz47_0 := bF BK324.out 0
            have hfz47_1 := bF BK324.out 1
            have hfz47_2 := bF BK324.out 2
            have hfz47_3 := bF BK324.out 3
            have hfz47_4 := bF BK324.out 4
            obtain ⟨Ao48, co48, eo48⟩ := Kd.N_slice HO_325000.out
            subst eo48
            have hnb49 := NB323_322.out
            have hnc49 := NB322_323.out
            have hcz50_0 : wr.cell? ⟨gb323, 0, none⟩ = some (.slice none 0 0) := (bC BK323.out 0).trans rfl
            have hcz50_1 : wr.cell? ⟨gb323, 1, none⟩ = some (.slice none 0 0) := (bC BK323.out 1).trans rfl
            have hcz50_2 : wr.cell? ⟨gb323, 2, none⟩ = some (.slice none 0 0) := (bC BK323.out 2).trans rfl
            have hcz50_3 : wr.cell? ⟨gb323, 3, none⟩ = some (.int .i64 0) := (bC BK323.out 3).trans rfl
            have hcz50_4 : wr.cell? ⟨gb323, 4, none⟩ = some (.int .i64 0) := (bC BK323.out 4).trans rfl
            have hfz50_0 := bF BK323.out 0
            have hfz50_1 := bF BK323.out 1
            have hfz50_2 := bF BK323.out 2
            have hfz50_3 := bF BK323.out 3
            have hfz50_4 := bF BK323.out 4
            obtain ⟨Ao51, co51, eo51⟩ := Kd.N_slice HO_325001.out
            subst eo51
            go_wp2
            refine bodyPost_ret (results_cell_row rfl _ _ gb323 26 #[.slice Ao48 x325000_1.length co48, .slice Ao51 x325001_2.length co51, .slice Ao19 t328.length co19, .int .i64 a0_3, .int .i64 a0_4] (0, 0) _ rfl (by (with_reducible repeat (first | refine kD ?_ _ | refine k1_ ?_ | refine kA ?_ _)); refine kP (cs := #[.slice Ao48 x325000_1.length co48, .slice Ao51 x325001_2.length co51, .slice Ao19 t328.length co19, .int .i64 a0_3, .int .i64 0]) ?_ 4 _ rfl; (with_reducible repeat (first | refine kD ?_ _ | refine k1_ ?_ | refine kA ?_ _)); refine kP (cs := #[.slice Ao48 x325000_1.length co48, .slice Ao51 x325001_2.length co51, .slice Ao19 t328.length co19, .int .i64 0, .int .i64 0]) ?_ 3 _ rfl; (with_reducible repeat (first | refine kD ?_ _ | refine k1_ ?_ | refine kA ?_ _)); refine kP (cs := #[.slice Ao48 x325000_1.length co48, .slice Ao51 x325001_2.length co51, .slice none 0 0, .int .i64 0, .int .i64 0]) ?_ 2 _ rfl; (with_reducible repeat (first | refine kD ?_ _ | refine k1_ ?_ | refine kA ?_ _)); refine kP (cs := #[.slice Ao48 x325000_1.length co48, .slice none 0 0, .slice none 0 0, .int .i64 0, .int .i64 0]) ?_ 1 _ rfl; (with_reducible repeat (first | refine kD ?_ _ | refine k1_ ?_ | refine kA ?_ _)); refine kP (cs := #[.slice none 0 0, .slice none 0 0, .slice none 0 0, .int .i64 0, .int .i64 0]) ?_ 0 _ rfl; (with_reducible repeat (first | refine kD ?_ _ | refine k1_ ?_ | refine kA ?_ _)); exact BK323.out) Tryd.underlying26 rfl (by kernel_rfl)) rfl ?_
            exact ⟨_, _, _, by first | rfl | (simp [errW_none, errW_some] <;> rfl) | (simp [*, errW_none, errW_some] <;> rfl), by (with_reducible repeat (first | apply nA | apply nD | apply n1x)); exact Kd.N_mono (Kd.N_far (p := ⟨gb323, 4, none⟩) (Kd.N_far (p := ⟨gb323, 3, none⟩) (Kd.N_far (p := ⟨gb323, 2, none⟩) (Kd.N_far (p := ⟨gb323, 1, none⟩) (Kd.N_far (p := ⟨gb323, 0, none⟩) (Kd.N_mono HO_325000.out (fun k_ hk => (⟨hk, hk.2.2.2.2.1⟩ : _ ∧ k_ ≠ gb323))) (fun _ hk => hk.2) (.slice Ao48 x325000_1.length co48)) (fun _ hk => hk.2) (.slice Ao51 x325001_2.length co51)) (fun _ hk => hk.2) (.slice Ao19 t328.length co19)) (fun _ hk => hk.2) (.int .i64 a0_3)) (fun _ hk => hk.2) (.int .i64 a0_4)) (fun _ hk => ⟨hk.1.1, ⟨hk.1.2.1, hk.1.2.2.1⟩⟩), by (with_reducible repeat (first | apply nA | apply nD | apply n1x)); exact Kd.N_mono (Kd.N_far (p := ⟨gb323, 4, none⟩) (Kd.N_far (p := ⟨gb323, 3, none⟩) (Kd.N_far (p := ⟨gb323, 2, none⟩) (Kd.N_far (p := ⟨gb323, 1, none⟩) (Kd.N_far (p := ⟨gb323, 0, none⟩) (Kd.N_mono HO_325001.out (fun k_ hk => (⟨hk, hk.2.2.2.2.1⟩ : _ ∧ k_ ≠ gb323))) (fun _ hk => hk.2) (.slice Ao48 x325000_1.length co48)) (fun _ hk => hk.2) (.slice Ao51 x325001_2.length co51)) (fun _ hk => hk.2) (.slice Ao19 t328.length co19)) (fun _ hk => hk.2) (.int .i64 a0_3)) (fun _ hk => hk.2) (.int .i64 a0_4)) (fun _ hk => ⟨hk.1.1, ⟨hk.1.2.1, hk.1.2.2.1⟩⟩), by (with_reducible repeat (first | apply rA | apply rD | apply r1x)); exact Kd.R_mono (Kd.R_far (p := ⟨gb323, 4, none⟩) (Kd.R_far (p := ⟨gb323, 3, none⟩) (Kd.R_far (p := ⟨gb323, 2, none⟩) (Kd.R_far (p := ⟨gb323, 1, none⟩) (Kd.R_far (p := ⟨gb323, 0, none⟩) (Kd.R_types HO_325002.out BK323.out (by decide)) (fun _ hk => hk.2) (.slice Ao48 x325000_1.length co48)) (fun _ hk => hk.2) (.slice Ao51 x325001_2.length co51)) (fun _ hk => hk.2) (.slice Ao19 t328.length co19)) (fun _ hk => hk.2) (.int .i64 a0_3)) (fun _ hk => hk.2) (.int .i64 a0_4)) (fun _ hk => hk.1), by repeat (first | (with_reducible first | exact HB.out | apply bA | apply bD | apply b1 | refine bS ?_ GE322.out | refine bS ?_ GE323.out | refine bS ?_ GE324.out) | exact HB.out)⟩

          rw [if_pos c36] at H
          have c36b0 : decide (x35_2 < (t325.length : Int)) = true := decide_eq_true c36
          clear c36
          by_cases c37 : 0 ≤ x35_2
          rotate_left
          · rw [if_neg c37] at H
            exact absurd H (by simp)
          rw [if_pos c37] at H
          have c37b0 : decide (0 ≤ x35_2) = true := decide_eq_true c37
          clear c37
          by_cases c38 : x35_2 < (x325001_2.length : Int)
          rotate_left
          · rw [if_neg c38] at H
            exact absurd H (by simp)
          rw [if_pos c38] at H
          have c38b0 : decide (x35_2 < (x325001_2.length : Int)) = true := decide_eq_true c38
          clear c38
          replace H := Option.bind_eq_some_iff.mp H
          obtain ⟨t339, A390, H⟩ := H
          replace H : (table_Clone.l1 k2 (t325.length : Int) (wrap64 (x35_2 + 1)) x325000_1 (x325001_2.set (x35_2 : Int).toNat (⟨(rd_T43 x325001_2 x35_2).f0, (rd_T43 x325001_2 x35_2).f1, t339, (rd_T43 x325001_2 x35_2).f3, (rd_T43 x325001_2 x35_2).f4, (rd_T43 x325001_2 x35_2).f5⟩ : S43)) t328 a0_3 a0_4) = some (r1, r2, r3, r4, r5) := H
          have A39 := AM A390
          clear A390
          obtain ⟨y342, hy342⟩ : ∃ y_ : List (S43), y_ = (x325001_2.set (x35_2 : Int).toNat (⟨(rd_T43 x325001_2 x35_2).f0, (rd_T43 x325001_2 x35_2).f1, t339, (rd_T43 x325001_2 x35_2).f3, (rd_T43 x325001_2 x35_2).f4, (rd_T43 x325001_2 x35_2).f5⟩ : S43)) := ⟨_, rfl⟩
          replace H : (table_Clone.l1 k2 (t325.length : Int) (wrap64 (x35_2 + 1)) x325000_1 y342 t328 a0_3 a0_4) = some (r1, r2, r3, r4, r5) := by first | (rw [hy342]; with_reducible exact H) | (have H2_ := (Option.bind_some _ _).symm.trans H; rw [hy342]; with_reducible exact H2_) | (have H2_ := (Option.bind_some _ _).symm.trans H; with_reducible exact H2_) | with_reducible exact H | (rw [hy342]; exact H) | exact H
          have Ny342 := AM hy342
          clear hy342
          have H' := AM H
          clear H
          try go_wp2
          have n0_ := AM (Kd.V_drew HO_323001.out)
          have n1_ := AM (n1x HO_325000.out)
          have n2_ := AM (n1x HO_325001.out)
          have n3_ := AM (r1x HO_325002.out)
          have n4_ := AM (k1_ BK322.out)
          have n5_ := AM (k1_ BK323.out)
          have n6_ := AM (k1_ BK324.out)
          have n7_ := AM (b1 HB.out)
          clear HO_323001
          clear HO_325000
          clear HO_325001
          clear HO_325002
          clear BK322
          clear BK323
          clear BK324
          clear HB
          have HO_323001 := n0_
          have HO_325000 := n1_
          have HO_325001 := n2_
          have HO_325002 := n3_
          have BK322 := n4_
          have BK323 := n5_
          have BK324 := n6_
          have HB := n7_
          clear n0_ n1_ n2_ n3_ n4_ n5_ n6_ n7_
          obtain ⟨Ao42, co42, eo42⟩ := Kd.N_slice HO_325001.out
          (first | subst eo42 | (injection eo42 with f1_ f2_ f3_; have f4_ := f1_.symm; have f5_ := f3_.symm; clear f1_ f2_ f3_; subst f4_; subst f5_))
          have p338 : 0 ≤ (x35_2 : Int) := of_decide_eq_true (by first | (with_reducible assumption) | assumption)
          have q338 : x35_2 < (x325001_2.length : Int) := of_decide_eq_true (by first | (with_reducible assumption) | assumption)
          obtain ⟨ad338, A338_2, c338_2, e338, hx338_0, hx338_1, hx338_2, hx338_3, hx338_4, hx338_5, hl338_2, hi338_2⟩ := at_T43 (Kd.N_reads' HO_325001.out).2.2 x35_2 p338 q338
          cases e338
          obtain ⟨ce338, hce338, hMe338, hcc338⟩ := Kd.N_get HO_325001.out z43 x35_2 p338 (by first | exact q338 | exact of_decide_eq_true (by first | (with_reducible assumption) | assumption) | (have e_ := (Kd.N_reads' HO_325001.out).1; omega))
          obtain ⟨ua338_2, uc338_2, rfl, ul338_2, ge338_2⟩ := k43_openF hMe338
          have hv338_2 := hcc338 2 _ rfl
          rw [add_field _ _ 2 (by omega)] at hv338_2
          replace hv338_2 := Option.some.inj (hv338_2.symm.trans hx338_2)
          injection hv338_2 with hva_ hvn_ hvc_
          rw [hva_] at ge338_2
          rw [hvc_] at ul338_2
          have HL338_2 := AM (show Kd.V k41 52 _ w.heap.size _ _ ((rd_T43 x325001_2 x35_2).f2) from Kd.V_mk ul338_2 ge338_2)
          clear hva_ hvn_ hvc_ ge338_2 ul338_2
          clear hcc338 hce338
          have HR338_2 := AM hi338_2
          have HC338_2 := AM hl338_2
          clear hi338_2 hl338_2
          replace p338 := eq_true p338
          replace q338 := eq_true q338
          refine start_ (n := 13) (S := fun w' => w'.cell? ⟨gb324, 0, none⟩ = some (u325000) ∧ w'.cell? ⟨gb324, 1, none⟩ = some (.slice (some ad338) x325001_2.length co42) ∧ w'.cell? ⟨gb324, 2, none⟩ = some (.slice Ao19 t328.length co19) ∧ w'.cell? ⟨gb324, 3, none⟩ = some (.int .i64 a0_3) ∧ w'.cell? ⟨gb324, 4, none⟩ = some (.int .i64 a0_4) ∧ w'.cell? (ad338.add ((x35_2).toNat * 6)) = some (.string ((rd_T43 x325001_2 x35_2).f0)) ∧ w'.cell? ⟨(ad338.add ((x35_2).toNat * 6)).block, (ad338.add ((x35_2).toNat * 6)).off + 1, none⟩ = some (.int .i64 ((rd_T43 x325001_2 x35_2).f1)) ∧ w'.cell? ⟨(ad338.add ((x35_2).toNat * 6)).block, (ad338.add ((x35_2).toNat * 6)).off + 2, none⟩ = some (.slice A338_2 ((rd_T43 x325001_2 x35_2).f2).length c338_2) ∧ w'.cell? ⟨(ad338.add ((x35_2).toNat * 6)).block, (ad338.add ((x35_2).toNat * 6)).off + 3, none⟩ = some (.int .i64 ((rd_T43 x325001_2 x35_2).f3)) ∧ w'.cell? ⟨(ad338.add ((x35_2).toNat * 6)).block, (ad338.add ((x35_2).toNat * 6)).off + 4, none⟩ = some (.int .i64 ((rd_T43 x325001_2 x35_2).f4)) ∧ w'.cell? ⟨(ad338.add ((x35_2).toNat * 6)).block, (ad338.add ((x35_2).toNat * 6)).off + 5, none⟩ = some (.int .i64 ((rd_T43 x325001_2 x35_2).f5))) (ds := [12]) #[false, false, false, false, false, false, false, false, false, false, false, false, false] (by kernel_rfl) rfl rfl ⟨(bC BK324.out 0).trans rfl, (bC BK324.out 1).trans rfl, (bC BK324.out 2).trans rfl, (bC BK324.out 3).trans rfl, (bC BK324.out 4).trans rfl, hx338_0, hx338_1, hx338_2, hx338_3, hx338_4, hx338_5⟩ (fun hHeld => ?_); refine with_tabW table_Clone.tab11 table_Clone.bits11 (fun HT_ HW_ => ?_)
          generalize wr.drew = w41 at HO_323001 HO_325000 HO_325001 HO_325002 BK322 BK323 BK324 HB HL338_2 HR338_2 hx338_0 hx338_1 hx338_2 hx338_3 hx338_4 hx338_5 hHeld ⊢
          refine pure_ (i := 0) (N := some 38) (v := ?_) (a' := ?_) #[true, false, false, false, false, false, false, false, false, false, false, false, false] rfl rfl (any_of HT_.out (by kernel_rfl)) (fun _ _ _ h => h) (Or.inl ⟨by rfl, ?_⟩) ?_ ?_
          rotate_left
          · intro w'
            go_simp
            with_reducible rfl
          rotate_left
          · simp only [Act.put, List.setIfInBounds_toArray, List.set_cons_zero, List.set_cons_succ, i64_w, i32_w]
            rfl
          refine pure_ (i := 2) (N := some 40) (v := ?_) (a' := ?_) #[true, false, true, false, false, false, false, false, false, false, false, false, false] rfl rfl (any_of HT_.out (by kernel_rfl)) (fun _ _ _ h => h) (Or.inl ⟨by rfl, ?_⟩) ?_ ?_
          rotate_left
          · intro w'
            go_simp
            with_reducible rfl
          rotate_left
          · simp only [Act.put, List.setIfInBounds_toArray, List.set_cons_zero, List.set_cons_succ, i64_w, i32_w]
            rfl
          refine pure_ (i := 3) (N := some 41) (v := ?_) (a' := ?_) #[true, false, true, true, false, false, false, false, false, false, false, false, false] rfl rfl (any_of HT_.out (by kernel_rfl)) (fun _ _ _ h => h) (Or.inl ⟨by rfl, ?_⟩) ?_ ?_
          rotate_left
          · intro w'
            go_simp
            with_reducible rfl
          rotate_left
          · simp only [Act.put, List.setIfInBounds_toArray, List.set_cons_zero, List.set_cons_succ, i64_w, i32_w]
            rfl
          refine pure_ (i := 5) (N := some 43) (v := ?_) (a' := ?_) #[true, false, true, true, false, true, false, false, false, false, false, false, false] rfl rfl (any_of HT_.out (by kernel_rfl)) (fun _ _ _ h => h) (Or.inl ⟨by rfl, ?_⟩) ?_ ?_
          rotate_left
          · intro w'
            go_simp
            with_reducible rfl
          rotate_left
          · simp only [Act.put, List.setIfInBounds_toArray, List.set_cons_zero, List.set_cons_succ, i64_w, i32_w]
            rfl
          refine take_ (i := 1) (N := some 39) (v := ?_) (a' := ?_) #[true, true, true, true, false, true, false, false, false, false, false, false, false] rfl rfl (take_ofW HT_.out HW_.out (by kernel_rfl)) (fun _ _ _ h => h) (Or.inl ⟨by rfl, ?_⟩) hHeld ?_ ?_
          rotate_left
          · rintro w' ⟨s0, s1, s2, s3, s4, s5, s6, s7, s8, s9, s10⟩
            go_simp
            with_reducible rfl
          rotate_left
          · simp only [Act.put, List.setIfInBounds_toArray, List.set_cons_zero, List.set_cons_succ, i64_w, i32_w]
            rfl
          refine take_ (i := 4) (N := some 42) (v := ?_) (a' := ?_) #[true, true, true, true, true, true, false, false, false, false, false, false, false] rfl rfl (take_ofW HT_.out HW_.out (by kernel_rfl)) (fun _ _ _ h => h) (Or.inl ⟨by rfl, ?_⟩) hHeld ?_ ?_
          rotate_left
          · rintro w' ⟨s0, s1, s2, s3, s4, s5, s6, s7, s8, s9, s10⟩
            go_simp
            with_reducible rfl
          rotate_left
          · simp only [Act.put, List.setIfInBounds_toArray, List.set_cons_zero, List.set_cons_succ, i64_w, i32_w]
            rfl
          refine pure_ (i := 6) (N := some 44) (v := ?_) (a' := ?_) #[true, true, true, true, true, true, true, false, false, false, false, false, false] rfl rfl (any_of HT_.out (by kernel_rfl)) (fun _ _ _ h => h) (Or.inl ⟨by rfl, ?_⟩) ?_ ?_
          rotate_left
          · intro w'
            go_simp
            with_reducible rfl
          rotate_left
          · simp only [Act.put, List.setIfInBounds_toArray, List.set_cons_zero, List.set_cons_succ, i64_w, i32_w]
            rfl
          refine pure_ (i := 7) (N := some 45) (v := ?_) (a' := ?_) #[true, true, true, true, true, true, true, true, false, false, false, false, false] rfl rfl (any_of HT_.out (by kernel_rfl)) (fun _ _ _ h => h) (Or.inl ⟨by rfl, ?_⟩) ?_ ?_
          rotate_left
          · intro w'
            go_simp
            with_reducible rfl
          rotate_left
          · simp only [Act.put, List.setIfInBounds_toArray, List.set_cons_zero, List.set_cons_succ, i64_w, i32_w]
            rfl
          refine take_ (i := 8) (N := some 46) (v := ?_) (a' := ?_) #[true, true, true, true, true, true, true, true, true, false, false, false, false] rfl rfl (take_ofW HT_.out HW_.out (by kernel_rfl)) (fun _ _ _ h => h) (Or.inl ⟨by rfl, ?_⟩) hHeld ?_ ?_
          rotate_left
          · rintro w' ⟨s0, s1, s2, s3, s4, s5, s6, s7, s8, s9, s10⟩
            go_simp
            with_reducible rfl
          rotate_left
          · simp only [Act.put, List.setIfInBounds_toArray, List.set_cons_zero, List.set_cons_succ, i64_w, i32_w]
            rfl
          refine one_ (i := 9) (N := some 47) #[true, true, true, true, true, true, true, true, true, true, false, false, false] rfl rfl (one_of HT_.out (by kernel_rfl)) (by decide) (fun K hK => ?_)
          refine goes_ Tryd.func29 (by kernel_rfl) rfl #[.slice A338_2 ((rd_T43 x325001_2 x35_2).f2).length c338_2] (by rfl) rfl rfl (by (try simp only [List.map_toArray, List.map_cons, List.map_nil]); first | done | rfl | (simp only [List.length_drop, List.length_take]; rfl)) ?_
          with_reducible refine (api_Band_31.calls _ _ ((rd_T43 x325001_2 x35_2).f2) t339 _ ?side1 ?side2 A39.out).mono ?_
          (case side1 => repeat (first | exact (by repeat (first | (with_reducible exact HR338_2.out) | (with_reducible refine cA ?_ _) | (with_reducible refine cD ?_ _) | (with_reducible refine c1_ ?_) | exact HR338_2.out)) | (with_reducible refine cA ?_ _) | (with_reducible refine cD ?_ _) | (with_reducible refine c1_ ?_)))
          (case side2 => exact HC338_2.out)
          rintro e w43 ⟨v340, rfl, ho0, hb⟩
          have HS5_ := (hb.cell (bL _ _ (hHeld.2.2.2.2.2.1))).trans (hHeld.2.2.2.2.2.1)
          have HS6_ := (hb.cell (bL _ _ (hHeld.2.2.2.2.2.2.1))).trans (hHeld.2.2.2.2.2.2.1)
          have HS7_ := (hb.cell (bL _ _ (hHeld.2.2.2.2.2.2.2.1))).trans (hHeld.2.2.2.2.2.2.2.1)
          have HS8_ := (hb.cell (bL _ _ (hHeld.2.2.2.2.2.2.2.2.1))).trans (hHeld.2.2.2.2.2.2.2.2.1)
          have HS9_ := (hb.cell (bL _ _ (hHeld.2.2.2.2.2.2.2.2.2.1))).trans (hHeld.2.2.2.2.2.2.2.2.2.1)
          have HS10_ := (hb.cell (bL _ _ (hHeld.2.2.2.2.2.2.2.2.2.2))).trans (hHeld.2.2.2.2.2.2.2.2.2.2)
          refine ⟨_, rfl, ?_⟩
          have n0_ := AM (Kd.V_elder' (by (with_reducible repeat (first | apply Kd.V_alloc | apply Kd.V_drewN | apply Kd.V_drew)); exact HO_323001.out) (Kd.R_base ho0) hb)
          have n1_ := AM (Kd.N_elder' (by (with_reducible repeat (first | apply nA | apply nD | apply n1x)); exact HO_325000.out) (Kd.R_base ho0) hb)
          have n2_ := AM (Kd.N_elder' (by (with_reducible repeat (first | apply nA | apply nD | apply n1x)); exact HO_325001.out) (Kd.R_base ho0) hb)
          have n3_ := AM (Kd.R_below (by (with_reducible repeat (first | apply rA | apply rD | apply r1x)); exact HO_325002.out) hb)
          have n4_ := AM (Kd.V_elder' (by (with_reducible repeat (first | apply Kd.V_alloc | apply Kd.V_drewN | apply Kd.V_drew)); exact HL338_2.out) (Kd.R_base ho0) hb)
          have n5_ := AM (Kd.R_lower (Kd.R_newM (M := fun k_ => (w.heap.size ≤ k_)) ho0 (bZ (by repeat (first | (with_reducible first | exact HB.out | apply bA | apply bD | apply b1 | refine bS ?_ GE322.out | refine bS ?_ GE323.out | refine bS ?_ GE324.out) | exact HB.out))) (fun k_ h_ => h_)) (bZ (by repeat (first | (with_reducible first | exact HB.out | apply bA | apply bD | apply b1 | refine bS ?_ GE322.out | refine bS ?_ GE323.out | refine bS ?_ GE324.out) | exact HB.out))))
          have n6_ := AM (kB (g := gb322) (o := .cells #[.slice A0_0 l0_0.length c0_0, u323001, .slice A0_2 l0_2.length c0_2, .int .i64 a0_3, .int .i64 a0_4] 26 (0, 0)) (by (with_reducible repeat (first | refine kD ?_ _ | refine k1_ ?_ | refine kA ?_ _)); exact BK322.out) hb)
          have n7_ := AM (kB (g := gb323) (o := .cells #[.slice none 0 0, .slice none 0 0, .slice none 0 0, .int .i64 0, .int .i64 0] 26 (0, 0)) (by (with_reducible repeat (first | refine kD ?_ _ | refine k1_ ?_ | refine kA ?_ _)); exact BK323.out) hb)
          have n8_ := AM (kB (g := gb324) (o := .cells #[u325000, .slice (some ad338) x325001_2.length co42, .slice Ao19 t328.length co19, .int .i64 a0_3, .int .i64 a0_4] 26 (0, 0)) (by (with_reducible repeat (first | refine kD ?_ _ | refine k1_ ?_ | refine kA ?_ _)); exact BK324.out) hb)
          have n9_ := AM (cB (by repeat (first | (with_reducible exact HR338_2.out) | (with_reducible refine cA ?_ _) | (with_reducible refine cD ?_ _) | (with_reducible refine c1_ ?_) | exact HR338_2.out)) hb)
          have n10_ := AM (bT (by repeat (first | (with_reducible first | exact HB.out | apply bA | apply bD | apply b1 | refine bS ?_ GE322.out | refine bS ?_ GE323.out | refine bS ?_ GE324.out) | exact HB.out)) hb)
          clear HO_323001
          clear HO_325000
          clear HO_325001
          clear HO_325002
          clear HL338_2
          clear BK322
          clear BK323
          clear BK324
          clear HR338_2
          clear HB
          have HO_323001 := n0_
          have HO_325000 := n1_
          have HO_325001 := n2_
          have HO_325002 := n3_
          have HL338_2 := n4_
          have HO341 := n5_
          have BK322 := n6_
          have BK323 := n7_
          have BK324 := n8_
          have HR338_2 := n9_
          have HB := n10_
          clear n0_ n1_ n2_ n3_ n4_ n5_ n6_ n7_ n8_ n9_ n10_
          (try clear hb)
          (try clear hb2)
          (try clear hk)
          (try clear hi)
          (try clear ho0)
          have p40 : 0 ≤ (x35_2 : Int) := of_decide_eq_true (by first | (with_reducible assumption) | assumption)
          have q40 : (x35_2 : Int) < ((x325001_2.length : Int) : Int) := of_decide_eq_true (by first | (with_reducible assumption) | assumption)
          obtain ⟨go40, co40, eo40, gb40, gl40, cl40, HG40⟩ := Kd.N_form HO_325001.out (by omega)
          (first | cases eo40 | (injection eo40 with ea_ en_ ec_; (first | subst ea_ | (injection ea_ with ea_; subst ea_)); subst ec_; clear en_))
          have GB40 := AM gb40
          have GG40 := AM HG40
          clear gb40 gl40 HG40
          (first | simp only [add_plain] at hx338_0 | skip)
          (first | simp only [add_plain] at hx338_1 | skip)
          (first | simp only [add_plain] at hx338_2 | skip)
          (first | simp only [add_plain] at hx338_3 | skip)
          (first | simp only [add_plain] at hx338_4 | skip)
          (first | simp only [add_plain] at hx338_5 | skip)
          obtain ⟨ce40, hcl40, hM40, hcc40, hfr40⟩ := Kd.N_elem HO_325001.out z43 (x35_2 : Int) p40 q40
          obtain ⟨ua40_2, uc40_2, rfl, ul40_2, ge40_2⟩ := k43_openF hM40
          have hx40_0 : World.cell? _ ⟨go40, (x35_2 : Int).toNat * 6, none⟩ = some (.string ((rd_T43 x325001_2 x35_2).f0)) := hcc40 0 _ rfl
          have hx40_1 : World.cell? _ ⟨go40, (x35_2 : Int).toNat * 6 + 1, none⟩ = some (.int .i64 ((rd_T43 x325001_2 x35_2).f1)) := hcc40 1 _ rfl
          have hx40_2 : World.cell? _ ⟨go40, (x35_2 : Int).toNat * 6 + 2, none⟩ = some (.slice ua40_2 ((rd_T43 x325001_2 x35_2).f2).length uc40_2) := hcc40 2 _ rfl
          have hx40_3 : World.cell? _ ⟨go40, (x35_2 : Int).toNat * 6 + 3, none⟩ = some (.int .i64 ((rd_T43 x325001_2 x35_2).f3)) := hcc40 3 _ rfl
          have hx40_4 : World.cell? _ ⟨go40, (x35_2 : Int).toNat * 6 + 4, none⟩ = some (.int .i64 ((rd_T43 x325001_2 x35_2).f4)) := hcc40 4 _ rfl
          have hx40_5 : World.cell? _ ⟨go40, (x35_2 : Int).toNat * 6 + 5, none⟩ = some (.int .i64 ((rd_T43 x325001_2 x35_2).f5)) := hcc40 5 _ rfl
          have hf40_0 : World.frozen? _ ⟨go40, (x35_2 : Int).toNat * 6, none⟩ = false := hfr40 0
          have hf40_1 : World.frozen? _ ⟨go40, (x35_2 : Int).toNat * 6 + 1, none⟩ = false := hfr40 1
          have hf40_2 : World.frozen? _ ⟨go40, (x35_2 : Int).toNat * 6 + 2, none⟩ = false := hfr40 2
          have hf40_3 : World.frozen? _ ⟨go40, (x35_2 : Int).toNat * 6 + 3, none⟩ = false := hfr40 3
          have hf40_4 : World.frozen? _ ⟨go40, (x35_2 : Int).toNat * 6 + 4, none⟩ = false := hfr40 4
          have hf40_5 : World.frozen? _ ⟨go40, (x35_2 : Int).toNat * 6 + 5, none⟩ = false := hfr40 5
          clear hcl40 hcc40 hfr40 hM40
          replace p40 := eq_true p40
          replace q40 := eq_true q40
          have HX44 := AM (show Kd.N k43 49 _ w.heap.size (fun k_ => (P0_1_ k_ ∨ w.heap.size ≤ k_) ∧ some k_ ≠ (u325000 : Value).ownBlock ∧ some k_ ≠ (.slice Ao19 t328.length co19 : Value).ownBlock ∧ some k_ ≠ (v340 : Value).ownBlock ∧ k_ ≠ gb322 ∧ k_ ≠ gb323 ∧ k_ ≠ gb324) (.slice (some ⟨go40, 0, none⟩) x325001_2.length co42) x325001_2 from (Kd.N_mono (HO_325001.out) (fun k_ hk => ⟨hk.1.1, ⟨hk.1.2.1, ⟨hk.1.2.2.1, ⟨hk.2, ⟨hk.1.2.2.2.1, ⟨hk.1.2.2.2.2.1, hk.1.2.2.2.2.2⟩⟩⟩⟩⟩⟩)))
          replace HX44 := AM (show Kd.N k43 49 _ w.heap.size (fun k_ => (P0_1_ k_ ∨ w.heap.size ≤ k_) ∧ some k_ ≠ (u325000 : Value).ownBlock ∧ some k_ ≠ (.slice Ao19 t328.length co19 : Value).ownBlock ∧ k_ ≠ gb322 ∧ k_ ≠ gb323 ∧ k_ ≠ gb324) (.slice (some ⟨go40, 0, none⟩) x325001_2.length co42) x325001_2 from Kd.N_mono HX44.out (fun k_ hk => ⟨hk.1, ⟨hk.2.1, ⟨hk.2.2.1, ⟨hk.2.2.2.2.1, ⟨hk.2.2.2.2.2.1, hk.2.2.2.2.2.2⟩⟩⟩⟩⟩))
          obtain ⟨ce44, hcl44, hM44, hcc44, hfr44⟩ := Kd.N_elem HX44.out z43 (x35_2 : Int) (of_decide_eq_true (by first | (with_reducible assumption) | assumption)) (by have h_ : (x35_2 : Int) < ((x325001_2.length : Int) : Int) := of_decide_eq_true (by first | (with_reducible assumption) | assumption); first | exact h_ | (have e_ := (Kd.N_reads' HO_325001.out).1; omega) | simpa using h_)
          obtain ⟨ua44_2, uc44_2, rfl, ul44_2, ge44_2⟩ := k43_openF hM44
          have HT44 := (Kd.R_types (Kd.R_types (Kd.R_types (Kd.R_apart' (Kd.R_apart' (Kd.R_apart' (HO341.out) (Kd.N_typed HO_325000.out) (by decide)) (Kd.R_typed HO_325002.out) (by decide)) (Kd.N_typed HO_325001.out) (by decide)) BK322.out (by decide)) BK323.out (by decide)) BK324.out (by decide))
          have HM44 := Kd.R_mono (ok' := (fun k_ => ((fun k_ => (P0_1_ k_ ∨ w.heap.size ≤ k_) ∧ some k_ ≠ (u325000 : Value).ownBlock ∧ some k_ ≠ (.slice Ao19 t328.length co19 : Value).ownBlock ∧ k_ ≠ gb322 ∧ k_ ≠ gb323 ∧ k_ ≠ gb324)) k_ ∧ k_ ≠ go40)) HT44 (by intro k_ hk; exact ⟨⟨(.inr (hk.1.1.1.1.1.1.1)), ⟨hk.1.1.1.1.1.2, ⟨hk.1.1.1.1.2, ⟨hk.1.1.2, ⟨hk.1.2, hk.2⟩⟩⟩⟩⟩, fun e_ => (hk.1.1.1.2) (by rw [e_]; rfl)⟩)
          obtain ⟨av44_, cv44_, ev44_⟩ := Kd.R_slice HM44
          subst ev44_
          have HP44 := (Kd.N_seg HX44.out (x35_2 : Int) (of_decide_eq_true (by first | (with_reducible assumption) | assumption)) (by have h_ : (x35_2 : Int) < ((x325001_2.length : Int) : Int) := of_decide_eq_true (by first | (with_reducible assumption) | assumption); first | exact h_ | (have e_ := (Kd.N_reads' HO_325001.out).1; omega) | simpa using h_) (seg := [(.slice av44_ t339.length cv44_)]) (j := 2) hcl44 hcc44 (show 3 ≤ 6 from by decide) (x' := (⟨(rd_T43 x325001_2 x35_2).f0, (rd_T43 x325001_2 x35_2).f1, t339, (rd_T43 x325001_2 x35_2).f3, (rd_T43 x325001_2 x35_2).f4, (rd_T43 x325001_2 x35_2).f5⟩ : S43)) (k43_mkF _ _ (⟨(rd_T43 x325001_2 x35_2).f0, (rd_T43 x325001_2 x35_2).f1, t339, (rd_T43 x325001_2 x35_2).f3, (rd_T43 x325001_2 x35_2).f4, (rd_T43 x325001_2 x35_2).f5⟩ : S43) (Kd.R_reads' HM44).2.1 (Kd.R_F HM44)) (fun _ hk => hk)).1
          rw [← Ny342.out] at HP44
          have HQ44 := AM HP44
          clear hcl44 hcc44 hfr44 hM44 HP44
          refine hK.out _ _ ⟨(bC BK324.out 0).trans rfl, (bC BK324.out 1).trans rfl, (bC BK324.out 2).trans rfl, (bC BK324.out 3).trans rfl, (bC BK324.out 4).trans rfl, HS5_, HS6_, HS7_, HS8_, HS9_, HS10_⟩ (fun hHeld => ?_)
          clear hK K
          refine norm_ (a' := ?_) ?_ ?_
          rotate_left
          · show Act.put _ (some 47) _ = _
            simp only [Act.put, List.setIfInBounds_toArray, List.set_cons_zero, List.set_cons_succ, i64_w, i32_w]
            rfl
          refine pure_ (i := 10) (N := some 48) (v := ?_) (a' := ?_) #[true, true, true, true, true, true, true, true, true, true, true, false, false] rfl rfl (any_of HT_.out (by kernel_rfl)) (fun _ _ _ h => h) (Or.inl ⟨by rfl, ?_⟩) ?_ ?_
          rotate_left
          · intro w'
            go_simp
            with_reducible rfl
          rotate_left
          · simp only [Act.put, List.setIfInBounds_toArray, List.set_cons_zero, List.set_cons_succ, i64_w, i32_w]
            rfl
          refine pure_ (i := 11) (N := some 49) (v := ?_) (a' := ?_) #[true, true, true, true, true, true, true, true, true, true, true, true, false] rfl rfl (any_of HT_.out (by kernel_rfl)) (fun _ _ _ h => h) (Or.inl ⟨by rfl, ?_⟩) ?_ ?_
          rotate_left
          · intro w'
            go_simp
            with_reducible rfl
          rotate_left
          · simp only [Act.put, List.setIfInBounds_toArray, List.set_cons_zero, List.set_cons_succ, i64_w, i32_w]
            rfl
          refine last_ (i := 12) (N := none) #[true, true, true, true, true, true, true, true, true, true, true, true, true] rfl rfl (one_of HT_.out (by kernel_rfl)) (by decide) (fun K hK => ?_)
          refine skip_ (w1 := ?_) (by rfl) rfl ?_ ?_
          rotate_left
          · go_simp
            rfl
          refine hK.out _ _ ?_
          clear hK K
          refine done_ (done_of HT_.out (by kernel_rfl)) ?_
          try go_wp2
          go_roundg k2
          case measure => have := HK1.out; have := HK2.out; omega
          case rel =>
            have ha322 := Kd.N_away (g := gb322) HX44.out (fun _ hk => hk.2.2.2.1)
            have hb322 : gb322 ≠ go40 := fun e_ => ha322 (congrArg some e_)
            have ha323 := Kd.N_away (g := gb323) HX44.out (fun _ hk => hk.2.2.2.2.1)
            have hb323 : gb323 ≠ go40 := fun e_ => ha323 (congrArg some e_)
            have ha324 := Kd.N_away (g := gb324) HX44.out (fun _ hk => hk.2.2.2.2.2)
            have hb324 : gb324 ≠ go40 := fun e_ => ha324 (congrArg some e_)
            exact ⟨(wrap64 (x35_2 + 1)), (x323001_2), (y342), (u323001), (.slice (some ⟨go40, 0, none⟩) x325001_2.length co42), (by first | rfl | (simp; done) | (simp [*]; done)), H', ⟨by have := HK1.out; have := HK2.out; omega⟩, ⟨by (with_reducible repeat (first | apply Kd.V_alloc | apply Kd.V_drewN | apply Kd.V_drew)); exact Kd.V_mono (Kd.V_far (p := ⟨go40, (x35_2 : Int).toNat * 6 + 2, none⟩) (Kd.V_mono HO_323001.out (fun k_ hk => (⟨hk, fun e_ => hk.1.2.2.1 (by rw [e_]; rfl)⟩ : _ ∧ k_ ≠ go40))) (fun _ hk => hk.2) ((.slice av44_ t339.length cv44_))) (fun _ hk => ⟨hk.1.1.1, ⟨hk.1.1.2.1, ⟨hk.1.1.2.2.1, ⟨hk.1.1.2.2.2.1, ⟨hk.1.1.2.2.2.2.1, ⟨hk.1.1.2.2.2.2.2.1, hk.1.1.2.2.2.2.2.2⟩⟩⟩⟩⟩⟩)⟩, ⟨by (with_reducible repeat (first | apply nA | apply nD | apply n1x)); exact Kd.N_mono (Kd.N_far (p := ⟨go40, (x35_2 : Int).toNat * 6 + 2, none⟩) (Kd.N_mono HO_325000.out (fun k_ hk => (⟨hk, fun e_ => hk.1.2.1 (by rw [e_]; rfl)⟩ : _ ∧ k_ ≠ go40))) (fun _ hk => hk.2) ((.slice av44_ t339.length cv44_))) (fun _ hk => ⟨hk.1.1.1, ⟨hk.1.1.2.1, ⟨hk.1.1.2.2.1, ⟨hk.1.1.2.2.2.1, ⟨hk.1.1.2.2.2.2.1, hk.1.1.2.2.2.2.2⟩⟩⟩⟩⟩)⟩, ⟨by (with_reducible repeat (first | apply nA | apply nD | apply n1x)); exact HQ44.out⟩, ⟨by (with_reducible repeat (first | apply rA | apply rD | apply r1x)); exact Kd.R_mono (Kd.R_far (p := ⟨go40, (x35_2 : Int).toNat * 6 + 2, none⟩) (Kd.R_types HO_325002.out GG40.out (by decide)) (fun _ hk => hk.2) ((.slice av44_ t339.length cv44_))) (fun _ hk => hk.1)⟩, ⟨by (with_reducible repeat (first | refine kD ?_ _ | refine k1_ ?_ | refine kA ?_ _)); exact kF BK322.out hb322 _⟩, ⟨by (with_reducible repeat (first | refine kD ?_ _ | refine k1_ ?_ | refine kA ?_ _)); exact kF BK323.out hb323 _⟩, ⟨by (with_reducible repeat (first | refine kD ?_ _ | refine k1_ ?_ | refine kA ?_ _)); exact kF BK324.out hb324 _⟩, ⟨by repeat (first | (with_reducible first | exact HB.out | apply bA | apply bD | apply b1 | refine bS ?_ GB40.out | refine bS ?_ GE322.out | refine bS ?_ GE323.out | refine bS ?_ GE324.out) | exact HB.out)⟩⟩
end Go.Proofs.YtdllkibfikcfbaaDoor.K
