-- by a program of this session, over the kit's printer
import Derived.Test.YtdllkibfikcfbaaDoorKx0
import Derived.Test.YtdllkibfikcfbaaDoorKx6
namespace Go.Proofs.YtdllkibfikcfbaaDoor.K
open Go.RowKit Go.Proofs.YtdllkibfikcfbaaDoorW.PrintWords Go.Proofs.YtdllkibfikcfbaaDoorW.PrintLast Go.Proofs.YtdllkibfikcfbaaDoorW.PrintMore
attribute [local go_sem] max2_int min2_int max_two min_two max_three min_three max_four min_four   -- for this text's walks alone
set_option linter.unusedVariables false
set_option linter.unusedSimpArgs false

/-! ### keep_Kept: function 13 -/
mutual
def keep_Kept.j2 : Nat → Int → List (List (S41)) → List (S43) → List (S58) → Int → Int → Int → Int → List Int → Int → Option (Int × Int)
  | 0, _, _, _, _, _, _, _, _, _, _ => none
  | k + 1, x7, x180000, x180001, x180002, x180003, x180004, x181000, x181001, x181002, x181003 => if (x181002.length : Int) = (x180001.length : Int) then (keep_Kept.l0 k (wrap64 (10000 - x7)) x181002 (x181002.length : Int) 0 x180000 x180001 x180002 x180003 x180004) else (some (0, 3))
def keep_Kept.l0 : Nat → Int → List Int → Int → Int → List (List (S41)) → List (S43) → List (S58) → Int → Int → Option (Int × Int)
  | 0, _, _, _, _, _, _, _, _, _ => none
  | k + 1, x8, x76, x77, x78, x180000, x180001, x180002, x180003, x180004 => if x78 < x77 then (if 0 ≤ x78 then (if x78 < (x76.length : Int) then (if (rd x76 x78) < 0 then (some (0, 3)) else (if x78 < (x180001.length : Int) then (if (rd x76 x78) ≥ (((rd_T43 x180001 x78).f2).length : Int) then (some (0, 3)) else (if 0 ≤ (rd x76 x78) then (if (rd x76 x78) < (((rd_T43 x180001 x78).f2).length : Int) then (keep_Kept.l0 k (wrap64 (x8 - ((rd_T41 ((rd_T43 x180001 x78).f2) (rd x76 x78)).f1))) x76 x77 (wrap64 (x78 + 1)) x180000 x180001 x180002 x180003 x180004) else (none)) else (none))) else (none))) else (none)) else (none)) else (some (x8, 0))
def keep_Kept.j0 : Nat → Int → Bool → List (List (S41)) → List (S43) → List (S58) → Int → Int → Int → Int → List Int → Int → Option (Int × Int)
  | 0, _, _, _, _, _, _, _, _, _, _, _ => none
  | k + 1, x7, x29, x180000, x180001, x180002, x180003, x180004, x181000, x181001, x181002, x181003 => if x29 = true then (keep_Kept.j2 k x7 x180000 x180001 x180002 x180003 x180004 x181000 x181001 x181002 x181003) else (if x181000 < 0 then (keep_Kept.j1 k true x180000 x180001 x180002 x180003 x180004 x181000 x181001 x181002 x181003) else (keep_Kept.j1 k (decide (x181000 ≥ (x180000.length : Int))) x180000 x180001 x180002 x180003 x180004 x181000 x181001 x181002 x181003))
def keep_Kept.j1 : Nat → Bool → List (List (S41)) → List (S43) → List (S58) → Int → Int → Int → Int → List Int → Int → Option (Int × Int)
  | 0, _, _, _, _, _, _, _, _, _, _ => none
  | k + 1, x38, x180000, x180001, x180002, x180003, x180004, x181000, x181001, x181002, x181003 => if x38 = true then (some (0, 81)) else (if x181001 < 0 then (some (0, 3)) else (if 0 ≤ x181000 then (if x181000 < (x180000.length : Int) then (if x181001 ≥ ((rd_L2 x180000 x181000).length : Int) then (some (0, 3)) else (if 0 ≤ x181001 then (if x181001 < ((rd_L2 x180000 x181000).length : Int) then (keep_Kept.j2 k ((rd_T41 (rd_L2 x180000 x181000) x181001).f1) x180000 x180001 x180002 x180003 x180004 x181000 x181001 x181002 x181003) else (none)) else (none))) else (none)) else (none)))
end
def keep_Kept.f (k : Nat) (l0_0 : List (List (S41))) (l0_1 : List (S43)) (l0_2 : List (S58)) (a0_3 : Int) (a0_4 : Int) (a1_0 : Int) (a1_1 : Int) (l1_2 : List Int) (a1_3 : Int) : Option (Int × Int) := (table_Check.f k l0_0 l0_1 l0_2 a0_3 a0_4).bind fun t181 => (if t181 = 0 then (if a1_0 = (-1) then (keep_Kept.j0 k a0_3 (a1_1 == (-1)) l0_0 l0_1 l0_2 a0_3 a0_4 a1_0 a1_1 l1_2 a1_3) else (keep_Kept.j0 k a0_3 false l0_0 l0_1 l0_2 a0_3 a0_4 a1_0 a1_1 l1_2 a1_3)) else (some (0, t181)))
set_option maxHeartbeats 8000000 in
set_option maxRecDepth 100000 in
theorem keep_Kept.calls (k : Nat) (A0_0 : Option Addr) (c0_0 : Nat) (l0_0 : List (List (S41))) (A0_1 : Option Addr) (c0_1 : Nat) (l0_1 : List (S43)) (A0_2 : Option Addr) (c0_2 : Nat) (l0_2 : List (S58)) (a0_3 : Int) (a0_4 : Int) (a1_0 : Int) (a1_1 : Int) (A1_2 : Option Addr) (c1_2 : Nat) (l1_2 : List Int) (a1_3 : Int) (r1 : Int) (r2 : Int) (w : World) (hr0_0 : Kd.C (Kd.slice 52 k41) w A0_0 l0_0.length l0_0) (hc0_0 : l0_0.length ≤ c0_0) (hr0_1 : Kd.C k43 w A0_1 l0_1.length l0_1) (hc0_1 : l0_1.length ≤ c0_1) (hr0_2 : Kd.C k58 w A0_2 l0_2.length l0_2) (hc0_2 : l0_2.length ≤ c0_2) (hr1_2 : Kd.C (Kd.int .i64) w A1_2 l1_2.length l1_2) (hc1_2 : l1_2.length ≤ c1_2) (h : keep_Kept.f k l0_0 l0_1 l0_2 a0_3 a0_4 a1_0 a1_1 l1_2 a1_3 = some (r1, r2)) :
    Calls Tryd.prog 15 #[.agg #[.slice A0_0 l0_0.length c0_0, .slice A0_1 l0_1.length c0_1, .slice A0_2 l0_2.length c0_2, .int .i64 a0_3, .int .i64 a0_4], .agg #[.int .i64 a1_0, .int .i64 a1_1, .slice A1_2 l1_2.length c1_2, .int .i64 a1_3]] w fun e w' => e = .returned (.tuple #[.int .i64 r1, .int .i64 r2]) ∧ Below w.heap.size w w' := by
  have hu26 := Tryd.underlying26
  have hu33 := Tryd.underlying39
  have HR0_0 := AM hr0_0
  have HC0_0 := AM hc0_0
  clear hr0_0 hc0_0
  have HR0_1 := AM hr0_1
  have HC0_1 := AM hc0_1
  clear hr0_1 hc0_1
  have HR0_2 := AM hr0_2
  have HC0_2 := AM hc0_2
  clear hr0_2 hc0_2
  have HR1_2 := AM hr1_2
  have HC1_2 := AM hc1_2
  clear hr1_2 hc1_2
  have HB := AM (Below.refl w.heap.size w)
  have H : ((table_Check.f k l0_0 l0_1 l0_2 a0_3 a0_4).bind fun t181 => (if t181 = 0 then (if a1_0 = (-1) then (keep_Kept.j0 k a0_3 (a1_1 == (-1)) l0_0 l0_1 l0_2 a0_3 a0_4 a1_0 a1_1 l1_2 a1_3) else (keep_Kept.j0 k a0_3 false l0_0 l0_1 l0_2 a0_3 a0_4 a1_0 a1_1 l1_2 a1_3)) else (some (0, t181)))) = some (r1, r2) := h
  clear h
  replace H := Option.bind_eq_some_iff.mp H
  obtain ⟨t181, A30, H⟩ := H
  replace H : (if t181 = 0 then (if a1_0 = (-1) then (keep_Kept.j0 k a0_3 (a1_1 == (-1)) l0_0 l0_1 l0_2 a0_3 a0_4 a1_0 a1_1 l1_2 a1_3) else (keep_Kept.j0 k a0_3 false l0_0 l0_1 l0_2 a0_3 a0_4 a1_0 a1_1 l1_2 a1_3)) else (some (0, t181))) = some (r1, r2) := H
  have A3 := AM A30
  clear A30
  by_cases c4 : t181 = 0
  rotate_left
  · rw [if_neg c4] at H
    have c4b0 : (t181 == 0) = false := beq_eq_false_iff_ne.mpr c4
    have c4b1 : (t181 != 0) = true := bne_iff_ne.mpr c4
    simp only [Option.some.injEq, Prod.mk.injEq] at H
    obtain ⟨rfl, rfl⟩ := H
    go_enter Tryd.func15, Tryd.ntmps15
    go_wp2_with (first | ((with_reducible refine gD (N := 2) rfl ?_); (try (refine gG (by rfl) ?_; dsimp only)); refine bE ?hg (N := 2) ?hd (cs := #[.slice A0_0 l0_0.length c0_0, .slice A0_1 l0_1.length c0_1, .slice A0_2 l0_2.length c0_2, .int .i64 a0_3, .int .i64 a0_4]) (t := 26) ?hr ?_; (case hd => rfl); (case hg => rfl); (case hr => first | (go_simp; done) | (go_simp; rfl)); intro gb179 hg w60 hbox hb; have n0_ := AM (bT bQ hb); have n1_ := AM (hbox); have n2_ := AM ((by rw [hg]; exact (bZ bQ) : w.heap.size ≤ gb179)); have n3_ := AM ((by rw [hg]; exact (bZ bQ) : w.heap.size ≤ gb179)); clear HB; have HB := n0_; have BK179 := n1_; have GW179 := n2_; have GE179 := n3_; clear n0_ n1_ n2_ n3_; clear hb hbox hg) | ((with_reducible refine gD (N := 3) rfl ?_); (try (refine gG (by rfl) ?_; dsimp only)); refine bE ?hg (N := 3) ?hd (cs := #[.int .i64 a1_0, .int .i64 a1_1, .slice A1_2 l1_2.length c1_2, .int .i64 a1_3]) (t := 39) ?hr ?_; (case hd => rfl); (case hg => rfl); (case hr => first | (go_simp; done) | (go_simp; rfl)); intro gb180 hg w61 hbox hb; have n0_ := AM (kB (g := gb179) (o := .cells #[.slice A0_0 l0_0.length c0_0, .slice A0_1 l0_1.length c0_1, .slice A0_2 l0_2.length c0_2, .int .i64 a0_3, .int .i64 a0_4] 26 (0, 0)) (kW BK179) hb); have n1_ := AM (bT bQ hb); have n2_ := AM (hbox); have n3_ := AM ((by rw [hg]; exact (bZ bQ) : w.heap.size ≤ gb180)); have n4_ := AM ((by rw [hg]; exact (bZ bQ) : w.heap.size ≤ gb180)); have n5_ := AM ((by rw [hg]; exact Nat.ne_of_lt (blk_lt (g := gb179) (o := .cells #[.slice A0_0 l0_0.length c0_0, .slice A0_1 l0_1.length c0_1, .slice A0_2 l0_2.length c0_2, .int .i64 a0_3, .int .i64 a0_4] 26 (0, 0)) (kW BK179)) : gb179 ≠ gb180)); have n6_ := AM ((by rw [hg]; exact Nat.ne_of_gt (blk_lt (g := gb179) (o := .cells #[.slice A0_0 l0_0.length c0_0, .slice A0_1 l0_1.length c0_1, .slice A0_2 l0_2.length c0_2, .int .i64 a0_3, .int .i64 a0_4] 26 (0, 0)) (kW BK179)) : gb180 ≠ gb179)); clear BK179; clear HB; have BK179 := n0_; have HB := n1_; have BK180 := n2_; have GW180 := n3_; have GE180 := n4_; have NB179_180 := n5_; have NB180_179 := n6_; clear n0_ n1_ n2_ n3_ n4_ n5_ n6_; clear hb hbox hg; have hnb62 := NB179_180.out; have hnc62 := NB180_179.out; obtain ⟨_, _, _, _, _, _, _, _, _, _⟩ := bX5 BK179.out) | (go_at_call 9; (with_reducible refine (table_Check.calls k _ _ l0_0 _ _ l0_1 _ _ l0_2 a0_3 a0_4 t181 _ ?side1 ?side2 ?side3 ?side4 ?side5 ?side6 A3.out).mono ?_); (case side1 => exact cQ HR0_0 HB); (case side2 => exact HC0_0.out); (case side3 => exact cQ HR0_1 HB); (case side4 => exact HC0_1.out); (case side5 => exact cQ HR0_2 HB); (case side6 => exact HC0_2.out); rintro e w64 ⟨rfl, hb⟩; have n0_ := AM (kB (g := gb179) (o := .cells #[.slice A0_0 l0_0.length c0_0, .slice A0_1 l0_1.length c0_1, .slice A0_2 l0_2.length c0_2, .int .i64 a0_3, .int .i64 a0_4] 26 (0, 0)) (kW BK179) hb); have n1_ := AM (kB (g := gb180) (o := .cells #[.int .i64 a1_0, .int .i64 a1_1, .slice A1_2 l1_2.length c1_2, .int .i64 a1_3] 39 (0, 0)) (kW BK180) hb); have n2_ := AM (bT bQ hb); clear BK179; clear BK180; clear HB; have BK179 := n0_; have BK180 := n1_; have HB := n2_; clear n0_ n1_ n2_; (try clear hb); (try clear hb2); (try clear hk); (try clear hi)))
    repeat (go_quiet (first | ((with_reducible refine gD (N := 2) rfl ?_); (try (refine gG (by rfl) ?_; dsimp only)); refine bE ?hg (N := 2) ?hd (cs := #[.slice A0_0 l0_0.length c0_0, .slice A0_1 l0_1.length c0_1, .slice A0_2 l0_2.length c0_2, .int .i64 a0_3, .int .i64 a0_4]) (t := 26) ?hr ?_; (case hd => rfl); (case hg => rfl); (case hr => first | (go_simp; done) | (go_simp; rfl)); intro gb179 hg w60 hbox hb; have n0_ := AM (bT bQ hb); have n1_ := AM (hbox); have n2_ := AM ((by rw [hg]; exact (bZ bQ) : w.heap.size ≤ gb179)); have n3_ := AM ((by rw [hg]; exact (bZ bQ) : w.heap.size ≤ gb179)); clear HB; have HB := n0_; have BK179 := n1_; have GW179 := n2_; have GE179 := n3_; clear n0_ n1_ n2_ n3_; clear hb hbox hg) | ((with_reducible refine gD (N := 3) rfl ?_); (try (refine gG (by rfl) ?_; dsimp only)); refine bE ?hg (N := 3) ?hd (cs := #[.int .i64 a1_0, .int .i64 a1_1, .slice A1_2 l1_2.length c1_2, .int .i64 a1_3]) (t := 39) ?hr ?_; (case hd => rfl); (case hg => rfl); (case hr => first | (go_simp; done) | (go_simp; rfl)); intro gb180 hg w61 hbox hb; have n0_ := AM (kB (g := gb179) (o := .cells #[.slice A0_0 l0_0.length c0_0, .slice A0_1 l0_1.length c0_1, .slice A0_2 l0_2.length c0_2, .int .i64 a0_3, .int .i64 a0_4] 26 (0, 0)) (kW BK179) hb); have n1_ := AM (bT bQ hb); have n2_ := AM (hbox); have n3_ := AM ((by rw [hg]; exact (bZ bQ) : w.heap.size ≤ gb180)); have n4_ := AM ((by rw [hg]; exact (bZ bQ) : w.heap.size ≤ gb180)); have n5_ := AM ((by rw [hg]; exact Nat.ne_of_lt (blk_lt (g := gb179) (o := .cells #[.slice A0_0 l0_0.length c0_0, .slice A0_1 l0_1.length c0_1, .slice A0_2 l0_2.length c0_2, .int .i64 a0_3, .int .i64 a0_4] 26 (0, 0)) (kW BK179)) : gb179 ≠ gb180)); have n6_ := AM ((by rw [hg]; exact Nat.ne_of_gt (blk_lt (g := gb179) (o := .cells #[.slice A0_0 l0_0.length c0_0, .slice A0_1 l0_1.length c0_1, .slice A0_2 l0_2.length c0_2, .int .i64 a0_3, .int .i64 a0_4] 26 (0, 0)) (kW BK179)) : gb180 ≠ gb179)); clear BK179; clear HB; have BK179 := n0_; have HB := n1_; have BK180 := n2_; have GW180 := n3_; have GE180 := n4_; have NB179_180 := n5_; have NB180_179 := n6_; clear n0_ n1_ n2_ n3_ n4_ n5_ n6_; clear hb hbox hg; have hnb62 := NB179_180.out; have hnc62 := NB180_179.out; obtain ⟨_, _, _, _, _, _, _, _, _, _⟩ := bX5 BK179.out) | (go_at_call 9; (with_reducible refine (table_Check.calls k _ _ l0_0 _ _ l0_1 _ _ l0_2 a0_3 a0_4 t181 _ ?side1 ?side2 ?side3 ?side4 ?side5 ?side6 A3.out).mono ?_); (case side1 => exact cQ HR0_0 HB); (case side2 => exact HC0_0.out); (case side3 => exact cQ HR0_1 HB); (case side4 => exact HC0_1.out); (case side5 => exact cQ HR0_2 HB); (case side6 => exact HC0_2.out); rintro e w64 ⟨rfl, hb⟩; have n0_ := AM (kB (g := gb179) (o := .cells #[.slice A0_0 l0_0.length c0_0, .slice A0_1 l0_1.length c0_1, .slice A0_2 l0_2.length c0_2, .int .i64 a0_3, .int .i64 a0_4] 26 (0, 0)) (kW BK179) hb); have n1_ := AM (kB (g := gb180) (o := .cells #[.int .i64 a1_0, .int .i64 a1_1, .slice A1_2 l1_2.length c1_2, .int .i64 a1_3] 39 (0, 0)) (kW BK180) hb); have n2_ := AM (bT bQ hb); clear BK179; clear BK180; clear HB; have BK179 := n0_; have BK180 := n1_; have HB := n2_; clear n0_ n1_ n2_; (try clear hb); (try clear hb2); (try clear hk); (try clear hi))); try go_wp2_with (first | ((with_reducible refine gD (N := 2) rfl ?_); (try (refine gG (by rfl) ?_; dsimp only)); refine bE ?hg (N := 2) ?hd (cs := #[.slice A0_0 l0_0.length c0_0, .slice A0_1 l0_1.length c0_1, .slice A0_2 l0_2.length c0_2, .int .i64 a0_3, .int .i64 a0_4]) (t := 26) ?hr ?_; (case hd => rfl); (case hg => rfl); (case hr => first | (go_simp; done) | (go_simp; rfl)); intro gb179 hg w60 hbox hb; have n0_ := AM (bT bQ hb); have n1_ := AM (hbox); have n2_ := AM ((by rw [hg]; exact (bZ bQ) : w.heap.size ≤ gb179)); have n3_ := AM ((by rw [hg]; exact (bZ bQ) : w.heap.size ≤ gb179)); clear HB; have HB := n0_; have BK179 := n1_; have GW179 := n2_; have GE179 := n3_; clear n0_ n1_ n2_ n3_; clear hb hbox hg) | ((with_reducible refine gD (N := 3) rfl ?_); (try (refine gG (by rfl) ?_; dsimp only)); refine bE ?hg (N := 3) ?hd (cs := #[.int .i64 a1_0, .int .i64 a1_1, .slice A1_2 l1_2.length c1_2, .int .i64 a1_3]) (t := 39) ?hr ?_; (case hd => rfl); (case hg => rfl); (case hr => first | (go_simp; done) | (go_simp; rfl)); intro gb180 hg w61 hbox hb; have n0_ := AM (kB (g := gb179) (o := .cells #[.slice A0_0 l0_0.length c0_0, .slice A0_1 l0_1.length c0_1, .slice A0_2 l0_2.length c0_2, .int .i64 a0_3, .int .i64 a0_4] 26 (0, 0)) (kW BK179) hb); have n1_ := AM (bT bQ hb); have n2_ := AM (hbox); have n3_ := AM ((by rw [hg]; exact (bZ bQ) : w.heap.size ≤ gb180)); have n4_ := AM ((by rw [hg]; exact (bZ bQ) : w.heap.size ≤ gb180)); have n5_ := AM ((by rw [hg]; exact Nat.ne_of_lt (blk_lt (g := gb179) (o := .cells #[.slice A0_0 l0_0.length c0_0, .slice A0_1 l0_1.length c0_1, .slice A0_2 l0_2.length c0_2, .int .i64 a0_3, .int .i64 a0_4] 26 (0, 0)) (kW BK179)) : gb179 ≠ gb180)); have n6_ := AM ((by rw [hg]; exact Nat.ne_of_gt (blk_lt (g := gb179) (o := .cells #[.slice A0_0 l0_0.length c0_0, .slice A0_1 l0_1.length c0_1, .slice A0_2 l0_2.length c0_2, .int .i64 a0_3, .int .i64 a0_4] 26 (0, 0)) (kW BK179)) : gb180 ≠ gb179)); clear BK179; clear HB; have BK179 := n0_; have HB := n1_; have BK180 := n2_; have GW180 := n3_; have GE180 := n4_; have NB179_180 := n5_; have NB180_179 := n6_; clear n0_ n1_ n2_ n3_ n4_ n5_ n6_; clear hb hbox hg; have hnb62 := NB179_180.out; have hnc62 := NB180_179.out; obtain ⟨_, _, _, _, _, _, _, _, _, _⟩ := bX5 BK179.out) | (go_at_call 9; (with_reducible refine (table_Check.calls k _ _ l0_0 _ _ l0_1 _ _ l0_2 a0_3 a0_4 t181 _ ?side1 ?side2 ?side3 ?side4 ?side5 ?side6 A3.out).mono ?_); (case side1 => exact cQ HR0_0 HB); (case side2 => exact HC0_0.out); (case side3 => exact cQ HR0_1 HB); (case side4 => exact HC0_1.out); (case side5 => exact cQ HR0_2 HB); (case side6 => exact HC0_2.out); rintro e w64 ⟨rfl, hb⟩; have n0_ := AM (kB (g := gb179) (o := .cells #[.slice A0_0 l0_0.length c0_0, .slice A0_1 l0_1.length c0_1, .slice A0_2 l0_2.length c0_2, .int .i64 a0_3, .int .i64 a0_4] 26 (0, 0)) (kW BK179) hb); have n1_ := AM (kB (g := gb180) (o := .cells #[.int .i64 a1_0, .int .i64 a1_1, .slice A1_2 l1_2.length c1_2, .int .i64 a1_3] 39 (0, 0)) (kW BK180) hb); have n2_ := AM (bT bQ hb); clear BK179; clear BK180; clear HB; have BK179 := n0_; have BK180 := n1_; have HB := n2_; clear n0_ n1_ n2_; (try clear hb); (try clear hb2); (try clear hk); (try clear hi))))
    go_ret2
    exact ⟨by first | rfl | (simp [errW_none, errW_some] <;> rfl) | (simp [*, errW_none, errW_some] <;> rfl), by repeat (first | (with_reducible first | exact HB.out | apply bA | apply bD | apply b1 | refine bS ?_ GE179.out | refine bS ?_ GE180.out) | exact HB.out)⟩

  rw [if_pos c4] at H
  have c4b0 : (t181 == 0) = true := beq_iff_eq.mpr c4
  have c4b1 : (t181 != 0) = false := bne_eq_false_iff_eq.mpr c4
  clear c4
  have HC5 := AM H
  clear H
  go_enter Tryd.func15, Tryd.ntmps15
  go_upto_block 0 with (first | ((with_reducible refine gD (N := 2) rfl ?_); (try (refine gG (by rfl) ?_; dsimp only)); refine bE ?hg (N := 2) ?hd (cs := #[.slice A0_0 l0_0.length c0_0, .slice A0_1 l0_1.length c0_1, .slice A0_2 l0_2.length c0_2, .int .i64 a0_3, .int .i64 a0_4]) (t := 26) ?hr ?_; (case hd => rfl); (case hg => rfl); (case hr => first | (go_simp; done) | (go_simp; rfl)); intro gb179 hg w6 hbox hb; have n0_ := AM (bT bQ hb); have n1_ := AM (hbox); have n2_ := AM ((by rw [hg]; exact (bZ bQ) : w.heap.size ≤ gb179)); have n3_ := AM ((by rw [hg]; exact (bZ bQ) : w.heap.size ≤ gb179)); clear HB; have HB := n0_; have BK179 := n1_; have GW179 := n2_; have GE179 := n3_; clear n0_ n1_ n2_ n3_; clear hb hbox hg) | ((with_reducible refine gD (N := 3) rfl ?_); (try (refine gG (by rfl) ?_; dsimp only)); refine bE ?hg (N := 3) ?hd (cs := #[.int .i64 a1_0, .int .i64 a1_1, .slice A1_2 l1_2.length c1_2, .int .i64 a1_3]) (t := 39) ?hr ?_; (case hd => rfl); (case hg => rfl); (case hr => first | (go_simp; done) | (go_simp; rfl)); intro gb180 hg w7 hbox hb; have n0_ := AM (kB (g := gb179) (o := .cells #[.slice A0_0 l0_0.length c0_0, .slice A0_1 l0_1.length c0_1, .slice A0_2 l0_2.length c0_2, .int .i64 a0_3, .int .i64 a0_4] 26 (0, 0)) (kW BK179) hb); have n1_ := AM (bT bQ hb); have n2_ := AM (hbox); have n3_ := AM ((by rw [hg]; exact (bZ bQ) : w.heap.size ≤ gb180)); have n4_ := AM ((by rw [hg]; exact (bZ bQ) : w.heap.size ≤ gb180)); have n5_ := AM ((by rw [hg]; exact Nat.ne_of_lt (blk_lt (g := gb179) (o := .cells #[.slice A0_0 l0_0.length c0_0, .slice A0_1 l0_1.length c0_1, .slice A0_2 l0_2.length c0_2, .int .i64 a0_3, .int .i64 a0_4] 26 (0, 0)) (kW BK179)) : gb179 ≠ gb180)); have n6_ := AM ((by rw [hg]; exact Nat.ne_of_gt (blk_lt (g := gb179) (o := .cells #[.slice A0_0 l0_0.length c0_0, .slice A0_1 l0_1.length c0_1, .slice A0_2 l0_2.length c0_2, .int .i64 a0_3, .int .i64 a0_4] 26 (0, 0)) (kW BK179)) : gb180 ≠ gb179)); clear BK179; clear HB; have BK179 := n0_; have HB := n1_; have BK180 := n2_; have GW180 := n3_; have GE180 := n4_; have NB179_180 := n5_; have NB180_179 := n6_; clear n0_ n1_ n2_ n3_ n4_ n5_ n6_; clear hb hbox hg; have hnb8 := NB179_180.out; have hnc8 := NB180_179.out; obtain ⟨_, _, _, _, _, _, _, _, _, _⟩ := bX5 BK179.out) | (go_at_call 9; (with_reducible refine (table_Check.calls k _ _ l0_0 _ _ l0_1 _ _ l0_2 a0_3 a0_4 t181 _ ?side1 ?side2 ?side3 ?side4 ?side5 ?side6 A3.out).mono ?_); (case side1 => exact cQ HR0_0 HB); (case side2 => exact HC0_0.out); (case side3 => exact cQ HR0_1 HB); (case side4 => exact HC0_1.out); (case side5 => exact cQ HR0_2 HB); (case side6 => exact HC0_2.out); rintro e w10 ⟨rfl, hb⟩; have n0_ := AM (kB (g := gb179) (o := .cells #[.slice A0_0 l0_0.length c0_0, .slice A0_1 l0_1.length c0_1, .slice A0_2 l0_2.length c0_2, .int .i64 a0_3, .int .i64 a0_4] 26 (0, 0)) (kW BK179) hb); have n1_ := AM (kB (g := gb180) (o := .cells #[.int .i64 a1_0, .int .i64 a1_1, .slice A1_2 l1_2.length c1_2, .int .i64 a1_3] 39 (0, 0)) (kW BK180) hb); have n2_ := AM (bT bQ hb); clear BK179; clear BK180; clear HB; have BK179 := n0_; have BK180 := n1_; have HB := n2_; clear n0_ n1_ n2_; (try clear hb); (try clear hb2); (try clear hk); (try clear hi); obtain ⟨_, _, _, _, _, _, _, _, _, _⟩ := bX5 BK179.out))
  repeat (go_quiet (first | ((with_reducible refine gD (N := 2) rfl ?_); (try (refine gG (by rfl) ?_; dsimp only)); refine bE ?hg (N := 2) ?hd (cs := #[.slice A0_0 l0_0.length c0_0, .slice A0_1 l0_1.length c0_1, .slice A0_2 l0_2.length c0_2, .int .i64 a0_3, .int .i64 a0_4]) (t := 26) ?hr ?_; (case hd => rfl); (case hg => rfl); (case hr => first | (go_simp; done) | (go_simp; rfl)); intro gb179 hg w6 hbox hb; have n0_ := AM (bT bQ hb); have n1_ := AM (hbox); have n2_ := AM ((by rw [hg]; exact (bZ bQ) : w.heap.size ≤ gb179)); have n3_ := AM ((by rw [hg]; exact (bZ bQ) : w.heap.size ≤ gb179)); clear HB; have HB := n0_; have BK179 := n1_; have GW179 := n2_; have GE179 := n3_; clear n0_ n1_ n2_ n3_; clear hb hbox hg) | ((with_reducible refine gD (N := 3) rfl ?_); (try (refine gG (by rfl) ?_; dsimp only)); refine bE ?hg (N := 3) ?hd (cs := #[.int .i64 a1_0, .int .i64 a1_1, .slice A1_2 l1_2.length c1_2, .int .i64 a1_3]) (t := 39) ?hr ?_; (case hd => rfl); (case hg => rfl); (case hr => first | (go_simp; done) | (go_simp; rfl)); intro gb180 hg w7 hbox hb; have n0_ := AM (kB (g := gb179) (o := .cells #[.slice A0_0 l0_0.length c0_0, .slice A0_1 l0_1.length c0_1, .slice A0_2 l0_2.length c0_2, .int .i64 a0_3, .int .i64 a0_4] 26 (0, 0)) (kW BK179) hb); have n1_ := AM (bT bQ hb); have n2_ := AM (hbox); have n3_ := AM ((by rw [hg]; exact (bZ bQ) : w.heap.size ≤ gb180)); have n4_ := AM ((by rw [hg]; exact (bZ bQ) : w.heap.size ≤ gb180)); have n5_ := AM ((by rw [hg]; exact Nat.ne_of_lt (blk_lt (g := gb179) (o := .cells #[.slice A0_0 l0_0.length c0_0, .slice A0_1 l0_1.length c0_1, .slice A0_2 l0_2.length c0_2, .int .i64 a0_3, .int .i64 a0_4] 26 (0, 0)) (kW BK179)) : gb179 ≠ gb180)); have n6_ := AM ((by rw [hg]; exact Nat.ne_of_gt (blk_lt (g := gb179) (o := .cells #[.slice A0_0 l0_0.length c0_0, .slice A0_1 l0_1.length c0_1, .slice A0_2 l0_2.length c0_2, .int .i64 a0_3, .int .i64 a0_4] 26 (0, 0)) (kW BK179)) : gb180 ≠ gb179)); clear BK179; clear HB; have BK179 := n0_; have HB := n1_; have BK180 := n2_; have GW180 := n3_; have GE180 := n4_; have NB179_180 := n5_; have NB180_179 := n6_; clear n0_ n1_ n2_ n3_ n4_ n5_ n6_; clear hb hbox hg; have hnb8 := NB179_180.out; have hnc8 := NB180_179.out; obtain ⟨_, _, _, _, _, _, _, _, _, _⟩ := bX5 BK179.out) | (go_at_call 9; (with_reducible refine (table_Check.calls k _ _ l0_0 _ _ l0_1 _ _ l0_2 a0_3 a0_4 t181 _ ?side1 ?side2 ?side3 ?side4 ?side5 ?side6 A3.out).mono ?_); (case side1 => exact cQ HR0_0 HB); (case side2 => exact HC0_0.out); (case side3 => exact cQ HR0_1 HB); (case side4 => exact HC0_1.out); (case side5 => exact cQ HR0_2 HB); (case side6 => exact HC0_2.out); rintro e w10 ⟨rfl, hb⟩; have n0_ := AM (kB (g := gb179) (o := .cells #[.slice A0_0 l0_0.length c0_0, .slice A0_1 l0_1.length c0_1, .slice A0_2 l0_2.length c0_2, .int .i64 a0_3, .int .i64 a0_4] 26 (0, 0)) (kW BK179) hb); have n1_ := AM (kB (g := gb180) (o := .cells #[.int .i64 a1_0, .int .i64 a1_1, .slice A1_2 l1_2.length c1_2, .int .i64 a1_3] 39 (0, 0)) (kW BK180) hb); have n2_ := AM (bT bQ hb); clear BK179; clear BK180; clear HB; have BK179 := n0_; have BK180 := n1_; have HB := n2_; clear n0_ n1_ n2_; (try clear hb); (try clear hb2); (try clear hk); (try clear hi); obtain ⟨_, _, _, _, _, _, _, _, _, _⟩ := bX5 BK179.out)); go_upto_block 0 with (first | ((with_reducible refine gD (N := 2) rfl ?_); (try (refine gG (by rfl) ?_; dsimp only)); refine bE ?hg (N := 2) ?hd (cs := #[.slice A0_0 l0_0.length c0_0, .slice A0_1 l0_1.length c0_1, .slice A0_2 l0_2.length c0_2, .int .i64 a0_3, .int .i64 a0_4]) (t := 26) ?hr ?_; (case hd => rfl); (case hg => rfl); (case hr => first | (go_simp; done) | (go_simp; rfl)); intro gb179 hg w6 hbox hb; have n0_ := AM (bT bQ hb); have n1_ := AM (hbox); have n2_ := AM ((by rw [hg]; exact (bZ bQ) : w.heap.size ≤ gb179)); have n3_ := AM ((by rw [hg]; exact (bZ bQ) : w.heap.size ≤ gb179)); clear HB; have HB := n0_; have BK179 := n1_; have GW179 := n2_; have GE179 := n3_; clear n0_ n1_ n2_ n3_; clear hb hbox hg) | ((with_reducible refine gD (N := 3) rfl ?_); (try (refine gG (by rfl) ?_; dsimp only)); refine bE ?hg (N := 3) ?hd (cs := #[.int .i64 a1_0, .int .i64 a1_1, .slice A1_2 l1_2.length c1_2, .int .i64 a1_3]) (t := 39) ?hr ?_; (case hd => rfl); (case hg => rfl); (case hr => first | (go_simp; done) | (go_simp; rfl)); intro gb180 hg w7 hbox hb; have n0_ := AM (kB (g := gb179) (o := .cells #[.slice A0_0 l0_0.length c0_0, .slice A0_1 l0_1.length c0_1, .slice A0_2 l0_2.length c0_2, .int .i64 a0_3, .int .i64 a0_4] 26 (0, 0)) (kW BK179) hb); have n1_ := AM (bT bQ hb); have n2_ := AM (hbox); have n3_ := AM ((by rw [hg]; exact (bZ bQ) : w.heap.size ≤ gb180)); have n4_ := AM ((by rw [hg]; exact (bZ bQ) : w.heap.size ≤ gb180)); have n5_ := AM ((by rw [hg]; exact Nat.ne_of_lt (blk_lt (g := gb179) (o := .cells #[.slice A0_0 l0_0.length c0_0, .slice A0_1 l0_1.length c0_1, .slice A0_2 l0_2.length c0_2, .int .i64 a0_3, .int .i64 a0_4] 26 (0, 0)) (kW BK179)) : gb179 ≠ gb180)); have n6_ := AM ((by rw [hg]; exact Nat.ne_of_gt (blk_lt (g := gb179) (o := .cells #[.slice A0_0 l0_0.length c0_0, .slice A0_1 l0_1.length c0_1, .slice A0_2 l0_2.length c0_2, .int .i64 a0_3, .int .i64 a0_4] 26 (0, 0)) (kW BK179)) : gb180 ≠ gb179)); clear BK179; clear HB; have BK179 := n0_; have HB := n1_; have BK180 := n2_; have GW180 := n3_; have GE180 := n4_; have NB179_180 := n5_; have NB180_179 := n6_; clear n0_ n1_ n2_ n3_ n4_ n5_ n6_; clear hb hbox hg; have hnb8 := NB179_180.out; have hnc8 := NB180_179.out; obtain ⟨_, _, _, _, _, _, _, _, _, _⟩ := bX5 BK179.out) | (go_at_call 9; (with_reducible refine (table_Check.calls k _ _ l0_0 _ _ l0_1 _ _ l0_2 a0_3 a0_4 t181 _ ?side1 ?side2 ?side3 ?side4 ?side5 ?side6 A3.out).mono ?_); (case side1 => exact cQ HR0_0 HB); (case side2 => exact HC0_0.out); (case side3 => exact cQ HR0_1 HB); (case side4 => exact HC0_1.out); (case side5 => exact cQ HR0_2 HB); (case side6 => exact HC0_2.out); rintro e w10 ⟨rfl, hb⟩; have n0_ := AM (kB (g := gb179) (o := .cells #[.slice A0_0 l0_0.length c0_0, .slice A0_1 l0_1.length c0_1, .slice A0_2 l0_2.length c0_2, .int .i64 a0_3, .int .i64 a0_4] 26 (0, 0)) (kW BK179) hb); have n1_ := AM (kB (g := gb180) (o := .cells #[.int .i64 a1_0, .int .i64 a1_1, .slice A1_2 l1_2.length c1_2, .int .i64 a1_3] 39 (0, 0)) (kW BK180) hb); have n2_ := AM (bT bQ hb); clear BK179; clear BK180; clear HB; have BK179 := n0_; have BK180 := n1_; have HB := n2_; clear n0_ n1_ n2_; (try clear hb); (try clear hb2); (try clear hk); (try clear hi); obtain ⟨_, _, _, _, _, _, _, _, _, _⟩ := bX5 BK179.out)))
  (try simp only [Act.put, List.setIfInBounds_toArray, List.set_cons_zero, List.set_cons_succ])
  go_cut [7] (fun v7 wc => ∃ (kq : Nat) (x7_4 : Int), v7 = .int .i64 x7_4 ∧ Aside0 (keep_Kept.j2 kq x7_4 l0_0 l0_1 l0_2 a0_3 a0_4 a1_0 a1_1 l1_2 a1_3 = some (r1, r2)) ∧ Aside0 (kq ≤ k) ∧ Aside0 (wc.heap[gb179]? = some (.cells #[(.slice A0_0 l0_0.length c0_0), (.slice A0_1 l0_1.length c0_1), (.slice A0_2 l0_2.length c0_2), .int .i64 a0_3, .int .i64 a0_4] 26 (0, 0))) ∧ Aside0 (wc.heap[gb180]? = some (.cells #[.int .i64 a1_0, .int .i64 a1_1, (.slice A1_2 l1_2.length c1_2), .int .i64 a1_3] 39 (0, 0))) ∧ Aside0 (Below w.heap.size w wc))
  case first =>
    have H := HC5.out
    clear HC5
    have HC12 := AM H
    clear H
    go_upto_region 6 with (fail)
    repeat (go_quiet (fail); go_upto_region 6 with (fail))
    go_cut [29] (fun v29 wc => ∃ (kq : Nat) (x29_11 : Bool), v29 = .bool x29_11 ∧ Aside0 (keep_Kept.j0 kq a0_3 x29_11 l0_0 l0_1 l0_2 a0_3 a0_4 a1_0 a1_1 l1_2 a1_3 = some (r1, r2)) ∧ Aside0 (kq ≤ k) ∧ Aside0 (wc.heap[gb179]? = some (.cells #[(.slice A0_0 l0_0.length c0_0), (.slice A0_1 l0_1.length c0_1), (.slice A0_2 l0_2.length c0_2), .int .i64 a0_3, .int .i64 a0_4] 26 (0, 0))) ∧ Aside0 (wc.heap[gb180]? = some (.cells #[.int .i64 a1_0, .int .i64 a1_1, (.slice A1_2 l1_2.length c1_2), .int .i64 a1_3] 39 (0, 0))) ∧ Aside0 (Below w.heap.size w wc))
    case first =>
      have H := HC12.out
      clear HC12
      by_cases c13 : a1_0 = (-1)
      rotate_left
      · rw [if_neg c13] at H
        have c13b0 : (a1_0 == (-1)) = false := beq_eq_false_iff_ne.mpr c13
        have c13b1 : (a1_0 != (-1)) = true := bne_iff_ne.mpr c13
        (first | rw [c13b0] | (simp only [i64_w, i32_w]; rw [c13b0]) | skip)
        have H' := AM H
        clear H
        have hnb16 := NB180_179.out
        have hnc16 := NB179_180.out
        obtain ⟨_, _, _, _, _, _, _, _⟩ := bX4 BK180.out
        go_wp2
        repeat (go_quiet (fail); try go_wp2)
        go_meet
        case rel => exact ⟨_, (false), (by first | rfl | (simp; done) | (simp [*]; done)), H', ⟨by first | omega | exact Nat.le_refl _⟩, ⟨by (with_reducible repeat (first | refine kD ?_ _ | refine k1_ ?_ | refine kA ?_ _)); exact BK179.out⟩, ⟨by (with_reducible repeat (first | refine kD ?_ _ | refine k1_ ?_ | refine kA ?_ _)); exact BK180.out⟩, ⟨by repeat (first | (with_reducible first | exact HB.out | apply bA | apply bD | apply b1 | refine bS ?_ GE179.out | refine bS ?_ GE180.out) | exact HB.out)⟩⟩
      rw [if_pos c13] at H
      have c13b0 : (a1_0 == (-1)) = true := beq_iff_eq.mpr c13
      have c13b1 : (a1_0 != (-1)) = false := bne_eq_false_iff_eq.mpr c13
      clear c13
      (first | rw [c13b0] | (simp only [i64_w, i32_w]; rw [c13b0]) | skip)
      have H' := AM H
      clear H
      have hnb14 := NB180_179.out
      have hnc14 := NB179_180.out
      obtain ⟨_, _, _, _, _, _, _, _⟩ := bX4 BK180.out
      go_wp2
      repeat (go_quiet (fail); try go_wp2)
      go_meet
      case rel => exact ⟨_, ((a1_1 == (-1))), (by first | rfl | (simp; done) | (simp [*]; done)), H', ⟨by first | omega | exact Nat.le_refl _⟩, ⟨by (with_reducible repeat (first | refine kD ?_ _ | refine k1_ ?_ | refine kA ?_ _)); exact BK179.out⟩, ⟨by (with_reducible repeat (first | refine kD ?_ _ | refine k1_ ?_ | refine kA ?_ _)); exact BK180.out⟩, ⟨by repeat (first | (with_reducible first | exact HB.out | apply bA | apply bD | apply b1 | refine bS ?_ GE179.out | refine bS ?_ GE180.out) | exact HB.out)⟩⟩
    case rest =>
      clear HC12
      obtain ⟨kq, x29_11, rfl, HA, HJ11, BK179, BK180, HB⟩ := hcut
      cases kq with
      | zero => exact absurd HA.out (by simp [keep_Kept.j0])
      | succ kj11 =>
        have H := HA.out
        clear HA
        simp only [keep_Kept.j0] at H
        by_cases c18 : x29_11 = true
        · subst c18
          have H1 : (keep_Kept.j2 kj11 a0_3 l0_0 l0_1 l0_2 a0_3 a0_4 a1_0 a1_1 l1_2 a1_3) = some (r1, r2) := by rw [if_pos rfl] at H; exact H
          clear H
          have H := H1
          clear H1
          have H' := AM H
          clear H
          go_wp2
          repeat (go_quiet (fail); try go_wp2)
          go_meet
          case rel => exact ⟨_, (a0_3), (by first | rfl | (simp; done) | (simp [*]; done)), H', ⟨by have := HJ11.out; first | omega | exact Nat.le_refl _⟩, ⟨by (with_reducible repeat (first | refine kD ?_ _ | refine k1_ ?_ | refine kA ?_ _)); exact BK179.out⟩, ⟨by (with_reducible repeat (first | refine kD ?_ _ | refine k1_ ?_ | refine kA ?_ _)); exact BK180.out⟩, ⟨by repeat (first | (with_reducible first | exact HB.out | apply bA | apply bD | apply b1 | refine bS ?_ GE179.out | refine bS ?_ GE180.out) | exact HB.out)⟩⟩
        replace c18 := Bool.eq_false_iff.mpr c18
        subst c18
        have H1 : (if a1_0 < 0 then (keep_Kept.j1 kj11 true l0_0 l0_1 l0_2 a0_3 a0_4 a1_0 a1_1 l1_2 a1_3) else (keep_Kept.j1 kj11 (decide (a1_0 ≥ (l0_0.length : Int))) l0_0 l0_1 l0_2 a0_3 a0_4 a1_0 a1_1 l1_2 a1_3)) = some (r1, r2) := by rw [if_neg (show ¬ (false = true) by decide)] at H; exact H
        clear H
        have H := H1
        clear H1
        have HC19 := AM H
        clear H
        go_upto_region 7 with (fail)
        repeat (go_quiet (fail); go_upto_region 7 with (fail))
        go_cut [38] (fun v38 wc => ∃ (kq : Nat) (x38_18 : Bool), v38 = .bool x38_18 ∧ Aside0 (keep_Kept.j1 kq x38_18 l0_0 l0_1 l0_2 a0_3 a0_4 a1_0 a1_1 l1_2 a1_3 = some (r1, r2)) ∧ Aside0 (kq ≤ kj11) ∧ Aside0 (wc.heap[gb179]? = some (.cells #[(.slice A0_0 l0_0.length c0_0), (.slice A0_1 l0_1.length c0_1), (.slice A0_2 l0_2.length c0_2), .int .i64 a0_3, .int .i64 a0_4] 26 (0, 0))) ∧ Aside0 (wc.heap[gb180]? = some (.cells #[.int .i64 a1_0, .int .i64 a1_1, (.slice A1_2 l1_2.length c1_2), .int .i64 a1_3] 39 (0, 0))) ∧ Aside0 (Below w.heap.size w wc))
        case first =>
          have H := HC19.out
          clear HC19
          by_cases c20 : a1_0 < 0
          · rw [if_pos c20] at H
            have c20b0 := decide_eq_true c20
            clear c20
            (first | rw [c20b0] | (simp only [i64_w, i32_w]; rw [c20b0]) | skip)
            have H' := AM H
            clear H
            have hnb21 := NB180_179.out
            have hnc21 := NB179_180.out
            obtain ⟨_, _, _, _, _, _, _, _⟩ := bX4 BK180.out
            go_wp2
            repeat (go_quiet (fail); try go_wp2)
            go_meet
            case rel => exact ⟨_, (true), (by first | rfl | (simp; done) | (simp [*]; done)), H', ⟨by have := HJ11.out; first | omega | exact Nat.le_refl _⟩, ⟨by (with_reducible repeat (first | refine kD ?_ _ | refine k1_ ?_ | refine kA ?_ _)); exact BK179.out⟩, ⟨by (with_reducible repeat (first | refine kD ?_ _ | refine k1_ ?_ | refine kA ?_ _)); exact BK180.out⟩, ⟨by repeat (first | (with_reducible first | exact HB.out | apply bA | apply bD | apply b1 | refine bS ?_ GE179.out | refine bS ?_ GE180.out) | exact HB.out)⟩⟩
          rw [if_neg c20] at H
          have c20b0 := decide_eq_false c20
          clear c20
          (first | rw [c20b0] | (simp only [i64_w, i32_w]; rw [c20b0]) | skip)
          have H' := AM H
          clear H
          have hnb23 := NB180_179.out
          have hnc23 := NB179_180.out
          obtain ⟨_, _, _, _, _, _, _, _⟩ := bX4 BK180.out
          obtain ⟨_, _, _, _, _, _, _, _, _, _⟩ := bX5 BK179.out
          go_wp2
          repeat (go_quiet (fail); try go_wp2)
          go_meet
          case rel => exact ⟨_, (decide (a1_0 ≥ (l0_0.length : Int))), (by first | rfl | (simp; done) | (simp [*]; done)), H', ⟨by have := HJ11.out; first | omega | exact Nat.le_refl _⟩, ⟨by (with_reducible repeat (first | refine kD ?_ _ | refine k1_ ?_ | refine kA ?_ _)); exact BK179.out⟩, ⟨by (with_reducible repeat (first | refine kD ?_ _ | refine k1_ ?_ | refine kA ?_ _)); exact BK180.out⟩, ⟨by repeat (first | (with_reducible first | exact HB.out | apply bA | apply bD | apply b1 | refine bS ?_ GE179.out | refine bS ?_ GE180.out) | exact HB.out)⟩⟩
        case rest =>
          clear HC19
          obtain ⟨kq, x38_18, rfl, HA, HJ18, BK179, BK180, HB⟩ := hcut
          cases kq with
          | zero => exact absurd HA.out (by simp [keep_Kept.j1])
          | succ kj18 =>
            have H := HA.out
            clear HA
            simp only [keep_Kept.j1] at H
            by_cases c26 : x38_18 = true
            · subst c26
              have H1 : (some (0, 81)) = some (r1, r2) := by rw [if_pos rfl] at H; exact H
              clear H
              have H := H1
              clear H1
              simp only [Option.some.injEq, Prod.mk.injEq] at H
              obtain ⟨rfl, rfl⟩ := H
              go_wp2
              repeat (go_quiet (fail); try go_wp2)
              go_ret2
              exact ⟨by first | rfl | (simp [errW_none, errW_some] <;> rfl) | (simp [*, errW_none, errW_some] <;> rfl), by repeat (first | (with_reducible first | exact HB.out | apply bA | apply bD | apply b1 | refine bS ?_ GE179.out | refine bS ?_ GE180.out) | exact HB.out)⟩
            replace c26 := Bool.eq_false_iff.mpr c26
            subst c26
            have H1 : (if a1_1 < 0 then (some (0, 3)) else (if 0 ≤ a1_0 then (if a1_0 < (l0_0.length : Int) then (if a1_1 ≥ ((rd_L2 l0_0 a1_0).length : Int) then (some (0, 3)) else (if 0 ≤ a1_1 then (if a1_1 < ((rd_L2 l0_0 a1_0).length : Int) then (keep_Kept.j2 kj18 ((rd_T41 (rd_L2 l0_0 a1_0) a1_1).f1) l0_0 l0_1 l0_2 a0_3 a0_4 a1_0 a1_1 l1_2 a1_3) else (none)) else (none))) else (none)) else (none))) = some (r1, r2) := by rw [if_neg (show ¬ (false = true) by decide)] at H; exact H
            clear H
            have H := H1
            clear H1
            by_cases c27 : a1_1 < 0
            · rw [if_pos c27] at H
              have c27b0 := decide_eq_true c27
              clear c27
              simp only [Option.some.injEq, Prod.mk.injEq] at H
              obtain ⟨rfl, rfl⟩ := H
              have hnb28 := NB180_179.out
              have hnc28 := NB179_180.out
              obtain ⟨_, _, _, _, _, _, _, _⟩ := bX4 BK180.out
              go_wp2
              repeat (go_quiet (fail); try go_wp2)
              go_ret2
              exact ⟨by first | rfl | (simp [errW_none, errW_some] <;> rfl) | (simp [*, errW_none, errW_some] <;> rfl), by repeat (first | (with_reducible first | exact HB.out | apply bA | apply bD | apply b1 | refine bS ?_ GE179.out | refine bS ?_ GE180.out) | exact HB.out)⟩
            rw [if_neg c27] at H
            have c27b0 := decide_eq_false c27
            clear c27
            by_cases c30 : 0 ≤ a1_0
            rotate_left
            · rw [if_neg c30] at H
              exact absurd H (by simp)
            rw [if_pos c30] at H
            have c30b0 := decide_eq_true c30
            clear c30
            by_cases c31 : a1_0 < (l0_0.length : Int)
            rotate_left
            · rw [if_neg c31] at H
              exact absurd H (by simp)
            rw [if_pos c31] at H
            have c31b0 := decide_eq_true c31
            clear c31
            by_cases c32 : a1_1 ≥ ((rd_L2 l0_0 a1_0).length : Int)
            · rw [if_pos c32] at H
              have c32b0 := decide_eq_true c32
              clear c32
              simp only [Option.some.injEq, Prod.mk.injEq] at H
              obtain ⟨rfl, rfl⟩ := H
              have hnb33 := NB180_179.out
              have hnc33 := NB179_180.out
              obtain ⟨_, _, _, _, _, _, _, _⟩ := bX4 BK180.out
              obtain ⟨_, _, _, _, _, _, _, _, _, _⟩ := bX5 BK179.out
              have p182 : 0 ≤ (a1_0 : Int) := of_decide_eq_true (by first | (with_reducible assumption) | assumption)
              have q182 : a1_0 < (l0_0.length : Int) := of_decide_eq_true (by first | (with_reducible assumption) | assumption)
              obtain ⟨ad182, A182_0, c182_0, e182, hx182_0, hl182_0, hi182_0⟩ := at_L2 HR0_0.out a1_0 p182 q182
              cases e182
              replace hx182_0 := (HB.out.cell (bL w _ hx182_0)).trans hx182_0
              have HR182_0 := AM hi182_0
              have HC182_0 := AM hl182_0
              clear hi182_0 hl182_0
              replace p182 := eq_true p182
              replace q182 := eq_true q182
              go_wp2
              repeat (go_quiet (fail); try go_wp2)
              go_ret2
              exact ⟨by first | rfl | (simp [errW_none, errW_some] <;> rfl) | (simp [*, errW_none, errW_some] <;> rfl), by repeat (first | (with_reducible first | exact HB.out | apply bA | apply bD | apply b1 | refine bS ?_ GE179.out | refine bS ?_ GE180.out) | exact HB.out)⟩
            rw [if_neg c32] at H
            have c32b0 := decide_eq_false c32
            clear c32
            by_cases c36 : 0 ≤ a1_1
            rotate_left
            · rw [if_neg c36] at H
              exact absurd H (by simp)
            rw [if_pos c36] at H
            have c36b0 := decide_eq_true c36
            clear c36
            by_cases c37 : a1_1 < ((rd_L2 l0_0 a1_0).length : Int)
            rotate_left
            · rw [if_neg c37] at H
              exact absurd H (by simp)
            rw [if_pos c37] at H
            have c37b0 := decide_eq_true c37
            clear c37
            have H' := AM H
            clear H
            have hnb38 := NB180_179.out
            have hnc38 := NB179_180.out
            obtain ⟨_, _, _, _, _, _, _, _⟩ := bX4 BK180.out
            obtain ⟨_, _, _, _, _, _, _, _, _, _⟩ := bX5 BK179.out
            have p182 : 0 ≤ (a1_0 : Int) := of_decide_eq_true (by first | (with_reducible assumption) | assumption)
            have q182 : a1_0 < (l0_0.length : Int) := of_decide_eq_true (by first | (with_reducible assumption) | assumption)
            obtain ⟨ad182, A182_0, c182_0, e182, hx182_0, hl182_0, hi182_0⟩ := at_L2 HR0_0.out a1_0 p182 q182
            cases e182
            replace hx182_0 := (HB.out.cell (bL w _ hx182_0)).trans hx182_0
            have HR182_0 := AM hi182_0
            have HC182_0 := AM hl182_0
            clear hi182_0 hl182_0
            replace p182 := eq_true p182
            replace q182 := eq_true q182
            have p183 : 0 ≤ (a1_0 : Int) := of_decide_eq_true (by first | (with_reducible assumption) | assumption)
            have q183 : a1_0 < (l0_0.length : Int) := of_decide_eq_true (by first | (with_reducible assumption) | assumption)
            obtain ⟨ad183, A183_0, c183_0, e183, hx183_0, hl183_0, hi183_0⟩ := at_L2 HR0_0.out a1_0 p183 q183
            obtain rfl : ad182 = ad183 := (by injection e183)
            replace hx183_0 := (HB.out.cell (bL w _ hx183_0)).trans hx183_0
            have HR183_0 := AM hi183_0
            have HC183_0 := AM hl183_0
            clear hi183_0 hl183_0
            replace p183 := eq_true p183
            replace q183 := eq_true q183
            have ea_ := Option.some.inj (hx182_0.symm.trans hx183_0)
            injection ea_ with ea_ en_ ec_
            subst ea_
            subst ec_
            clear en_
            have p184 : 0 ≤ (a1_1 : Int) := of_decide_eq_true (by first | (with_reducible assumption) | assumption)
            have q184 : a1_1 < ((rd_L2 l0_0 a1_0).length : Int) := of_decide_eq_true (by first | (with_reducible assumption) | assumption)
            obtain ⟨ad184, e184, hx184_0, hx184_1, hx184_2⟩ := at_T41 HR183_0.out a1_1 p184 q184
            cases e184
            replace hx184_0 := (HB.out.cell (bL w _ hx184_0)).trans hx184_0
            replace hx184_1 := (HB.out.cell (bL w _ hx184_1)).trans hx184_1
            replace hx184_2 := (HB.out.cell (bL w _ hx184_2)).trans hx184_2
            replace p184 := eq_true p184
            replace q184 := eq_true q184
            go_wp2
            repeat (go_quiet (fail); try go_wp2)
            go_meet
            case rel => exact ⟨_, ((rd_T41 (rd_L2 l0_0 a1_0) a1_1).f1), (by first | rfl | (simp; done) | (simp [*]; done)), H', ⟨by have := HJ11.out; have := HJ18.out; first | omega | exact Nat.le_refl _⟩, ⟨by (with_reducible repeat (first | refine kD ?_ _ | refine k1_ ?_ | refine kA ?_ _)); exact BK179.out⟩, ⟨by (with_reducible repeat (first | refine kD ?_ _ | refine k1_ ?_ | refine kA ?_ _)); exact BK180.out⟩, ⟨by repeat (first | (with_reducible first | exact HB.out | apply bA | apply bD | apply b1 | refine bS ?_ GE179.out | refine bS ?_ GE180.out) | exact HB.out)⟩⟩
  case rest =>
    clear HC5
    obtain ⟨kq, x7_4, rfl, HA, HJ4, BK179, BK180, HB⟩ := hcut
    cases kq with
    | zero => exact absurd HA.out (by simp [keep_Kept.j2])
    | succ kj4 =>
      have H := HA.out
      clear HA
      simp only [keep_Kept.j2] at H
      by_cases c41 : (l1_2.length : Int) = (l0_1.length : Int)
      rotate_left
      · rw [if_neg c41] at H
        have c41b0 : ((l1_2.length : Int) == (l0_1.length : Int)) = false := beq_eq_false_iff_ne.mpr c41
        have c41b1 : ((l1_2.length : Int) != (l0_1.length : Int)) = true := bne_iff_ne.mpr c41
        have c41b2 : (l1_2.length == l0_1.length) = false := by first | simpa using c41 | (simp at c41 ⊢; omega)
        simp only [Option.some.injEq, Prod.mk.injEq] at H
        obtain ⟨rfl, rfl⟩ := H
        have hnb57 := NB180_179.out
        have hnc57 := NB179_180.out
        obtain ⟨_, _, _, _, _, _, _, _⟩ := bX4 BK180.out
        obtain ⟨_, _, _, _, _, _, _, _, _, _⟩ := bX5 BK179.out
        go_wp2
        repeat (go_quiet (fail); try go_wp2)
        go_ret2
        exact ⟨by first | rfl | (simp [errW_none, errW_some] <;> rfl) | (simp [*, errW_none, errW_some] <;> rfl), by repeat (first | (with_reducible first | exact HB.out | apply bA | apply bD | apply b1 | refine bS ?_ GE179.out | refine bS ?_ GE180.out) | exact HB.out)⟩
      rw [if_pos c41] at H
      have c41b0 : ((l1_2.length : Int) == (l0_1.length : Int)) = true := beq_iff_eq.mpr c41
      have c41b1 : ((l1_2.length : Int) != (l0_1.length : Int)) = false := bne_eq_false_iff_eq.mpr c41
      have c41b2 : (l1_2.length == l0_1.length) = true := by first | simpa using c41 | (simp at c41 ⊢; omega)
      clear c41
      have H' := AM H
      clear H
      have hnb42 := NB180_179.out
      have hnc42 := NB179_180.out
      obtain ⟨_, _, _, _, _, _, _, _⟩ := bX4 BK180.out
      obtain ⟨_, _, _, _, _, _, _, _, _, _⟩ := bX5 BK179.out
      go_wp2
      repeat (go_quiet (fail); try go_wp2)
      go_loopg [8, 78] kj4 (fun kq v8 v78 w' => ∃ (x8_2 : Int) (x78_2 : Int), v8 = .int .i64 x8_2 ∧ v78 = .int .i64 x78_2 ∧ Aside0 (keep_Kept.l0 kq x8_2 l1_2 (l1_2.length : Int) x78_2 l0_0 l0_1 l0_2 a0_3 a0_4 = some (r1, r2)) ∧ Aside0 (kq ≤ kj4) ∧ Aside0 (w'.heap[gb179]? = some (.cells #[(.slice A0_0 l0_0.length c0_0), (.slice A0_1 l0_1.length c0_1), (.slice A0_2 l0_2.length c0_2), .int .i64 a0_3, .int .i64 a0_4] 26 (0, 0))) ∧ Aside0 (w'.heap[gb180]? = some (.cells #[.int .i64 a1_0, .int .i64 a1_1, (.slice A1_2 l1_2.length c1_2), .int .i64 a1_3] 39 (0, 0))) ∧ Aside0 (Below w.heap.size w w'))
      case atStart => exact ⟨(wrap64 (10000 - x7_4)), (0), (by first | rfl | (simp; done) | (simp [*]; done)), (by first | rfl | (simp; done) | (simp [*]; done)), H', ⟨Nat.le_refl _⟩, ⟨by (with_reducible repeat (first | refine kD ?_ _ | refine k1_ ?_ | refine kA ?_ _)); exact BK179.out⟩, ⟨by (with_reducible repeat (first | refine kD ?_ _ | refine k1_ ?_ | refine kA ?_ _)); exact BK180.out⟩, ⟨by repeat (first | (with_reducible first | exact HB.out | apply bA | apply bD | apply b1 | refine bS ?_ GE179.out | refine bS ?_ GE180.out) | exact HB.out)⟩⟩
      case round =>
        clear H'
        obtain ⟨x8_2, x78_2, rfl, rfl, HA, HK2, BK179, BK180, HB⟩ := hrel
        cases gk with
        | zero => exact absurd HA.out (by simp [keep_Kept.l0])
        | succ k2 =>
          have H := HA.out
          clear HA
          simp only [keep_Kept.l0] at H
          by_cases c45 : x78_2 < (l1_2.length : Int)
          rotate_left
          · rw [if_neg c45] at H
            have c45b0 := decide_eq_false c45
            clear c45
            simp only [Option.some.injEq, Prod.mk.injEq] at H
            obtain ⟨rfl, rfl⟩ := H
            go_wp2
            repeat (go_quiet (fail); try go_wp2)
            go_ret2
            exact ⟨by first | rfl | (simp [errW_none, errW_some] <;> rfl) | (simp [*, errW_none, errW_some] <;> rfl), by repeat (first | (with_reducible first | exact HB.out | apply bA | apply bD | apply b1 | refine bS ?_ GE179.out | refine bS ?_ GE180.out) | exact HB.out)⟩
          rw [if_pos c45] at H
          have c45b0 := decide_eq_true c45
          clear c45
          by_cases c46 : 0 ≤ x78_2
          rotate_left
          · rw [if_neg c46] at H
            exact absurd H (by simp)
          rw [if_pos c46] at H
          have c46b0 := decide_eq_true c46
          clear c46
          by_cases c47 : x78_2 < (l1_2.length : Int)
          rotate_left
          · rw [if_neg c47] at H
            exact absurd H (by simp)
          rw [if_pos c47] at H
          have c47b0 := decide_eq_true c47
          clear c47
          by_cases c48 : (rd l1_2 x78_2) < 0
          · rw [if_pos c48] at H
            have c48b0 := decide_eq_true c48
            clear c48
            simp only [Option.some.injEq, Prod.mk.injEq] at H
            obtain ⟨rfl, rfl⟩ := H
            have p185 : 0 ≤ (x78_2 : Int) := of_decide_eq_true (by first | (with_reducible assumption) | assumption)
            have q185 : x78_2 < (l1_2.length : Int) := of_decide_eq_true (by first | (with_reducible assumption) | assumption)
            obtain ⟨ad185, e185, hx185_0⟩ := Kd.at_int HR1_2.out x78_2 p185 q185
            cases e185
            replace hx185_0 := (HB.out.cell (bL w _ hx185_0)).trans hx185_0
            replace p185 := eq_true p185
            replace q185 := eq_true q185
            go_wp2
            repeat (go_quiet (fail); try go_wp2)
            go_ret2
            exact ⟨by first | rfl | (simp [errW_none, errW_some] <;> rfl) | (simp [*, errW_none, errW_some] <;> rfl), by repeat (first | (with_reducible first | exact HB.out | apply bA | apply bD | apply b1 | refine bS ?_ GE179.out | refine bS ?_ GE180.out) | exact HB.out)⟩
          rw [if_neg c48] at H
          have c48b0 := decide_eq_false c48
          clear c48
          by_cases c49 : x78_2 < (l0_1.length : Int)
          rotate_left
          · rw [if_neg c49] at H
            exact absurd H (by simp)
          rw [if_pos c49] at H
          have c49b0 := decide_eq_true c49
          clear c49
          by_cases c50 : (rd l1_2 x78_2) ≥ (((rd_T43 l0_1 x78_2).f2).length : Int)
          · rw [if_pos c50] at H
            have c50b0 := decide_eq_true c50
            clear c50
            simp only [Option.some.injEq, Prod.mk.injEq] at H
            obtain ⟨rfl, rfl⟩ := H
            have p185 : 0 ≤ (x78_2 : Int) := of_decide_eq_true (by first | (with_reducible assumption) | assumption)
            have q185 : x78_2 < (l1_2.length : Int) := of_decide_eq_true (by first | (with_reducible assumption) | assumption)
            obtain ⟨ad185, e185, hx185_0⟩ := Kd.at_int HR1_2.out x78_2 p185 q185
            cases e185
            replace hx185_0 := (HB.out.cell (bL w _ hx185_0)).trans hx185_0
            replace p185 := eq_true p185
            replace q185 := eq_true q185
            have hnb51 := NB179_180.out
            have hnc51 := NB180_179.out
            obtain ⟨_, _, _, _, _, _, _, _, _, _⟩ := bX5 BK179.out
            have p186 : 0 ≤ (x78_2 : Int) := of_decide_eq_true (by first | (with_reducible assumption) | assumption)
            have q186 : x78_2 < (l0_1.length : Int) := of_decide_eq_true (by first | (with_reducible assumption) | assumption)
            obtain ⟨ad186, A186_2, c186_2, e186, hx186_0, hx186_1, hx186_2, hx186_3, hx186_4, hx186_5, hl186_2, hi186_2⟩ := at_T43 HR0_1.out x78_2 p186 q186
            cases e186
            replace hx186_0 := (HB.out.cell (bL w _ hx186_0)).trans hx186_0
            replace hx186_1 := (HB.out.cell (bL w _ hx186_1)).trans hx186_1
            replace hx186_2 := (HB.out.cell (bL w _ hx186_2)).trans hx186_2
            replace hx186_3 := (HB.out.cell (bL w _ hx186_3)).trans hx186_3
            replace hx186_4 := (HB.out.cell (bL w _ hx186_4)).trans hx186_4
            replace hx186_5 := (HB.out.cell (bL w _ hx186_5)).trans hx186_5
            have HR186_2 := AM hi186_2
            have HC186_2 := AM hl186_2
            clear hi186_2 hl186_2
            replace p186 := eq_true p186
            replace q186 := eq_true q186
            go_wp2
            repeat (go_quiet (fail); try go_wp2)
            go_ret2
            exact ⟨by first | rfl | (simp [errW_none, errW_some] <;> rfl) | (simp [*, errW_none, errW_some] <;> rfl), by repeat (first | (with_reducible first | exact HB.out | apply bA | apply bD | apply b1 | refine bS ?_ GE179.out | refine bS ?_ GE180.out) | exact HB.out)⟩
          rw [if_neg c50] at H
          have c50b0 := decide_eq_false c50
          clear c50
          by_cases c53 : 0 ≤ (rd l1_2 x78_2)
          rotate_left
          · rw [if_neg c53] at H
            exact absurd H (by simp)
          rw [if_pos c53] at H
          have c53b0 := decide_eq_true c53
          clear c53
          by_cases c54 : (rd l1_2 x78_2) < (((rd_T43 l0_1 x78_2).f2).length : Int)
          rotate_left
          · rw [if_neg c54] at H
            exact absurd H (by simp)
          rw [if_pos c54] at H
          have c54b0 := decide_eq_true c54
          clear c54
          have H' := AM H
          clear H
          have p185 : 0 ≤ (x78_2 : Int) := of_decide_eq_true (by first | (with_reducible assumption) | assumption)
          have q185 : x78_2 < (l1_2.length : Int) := of_decide_eq_true (by first | (with_reducible assumption) | assumption)
          obtain ⟨ad185, e185, hx185_0⟩ := Kd.at_int HR1_2.out x78_2 p185 q185
          cases e185
          replace hx185_0 := (HB.out.cell (bL w _ hx185_0)).trans hx185_0
          replace p185 := eq_true p185
          replace q185 := eq_true q185
          have hnb55 := NB179_180.out
          have hnc55 := NB180_179.out
          obtain ⟨_, _, _, _, _, _, _, _, _, _⟩ := bX5 BK179.out
          have p186 : 0 ≤ (x78_2 : Int) := of_decide_eq_true (by first | (with_reducible assumption) | assumption)
          have q186 : x78_2 < (l0_1.length : Int) := of_decide_eq_true (by first | (with_reducible assumption) | assumption)
          obtain ⟨ad186, A186_2, c186_2, e186, hx186_0, hx186_1, hx186_2, hx186_3, hx186_4, hx186_5, hl186_2, hi186_2⟩ := at_T43 HR0_1.out x78_2 p186 q186
          cases e186
          replace hx186_0 := (HB.out.cell (bL w _ hx186_0)).trans hx186_0
          replace hx186_1 := (HB.out.cell (bL w _ hx186_1)).trans hx186_1
          replace hx186_2 := (HB.out.cell (bL w _ hx186_2)).trans hx186_2
          replace hx186_3 := (HB.out.cell (bL w _ hx186_3)).trans hx186_3
          replace hx186_4 := (HB.out.cell (bL w _ hx186_4)).trans hx186_4
          replace hx186_5 := (HB.out.cell (bL w _ hx186_5)).trans hx186_5
          have HR186_2 := AM hi186_2
          have HC186_2 := AM hl186_2
          clear hi186_2 hl186_2
          replace p186 := eq_true p186
          replace q186 := eq_true q186
          have p187 : 0 ≤ (x78_2 : Int) := of_decide_eq_true (by first | (with_reducible assumption) | assumption)
          have q187 : x78_2 < (l0_1.length : Int) := of_decide_eq_true (by first | (with_reducible assumption) | assumption)
          obtain ⟨ad187, A187_2, c187_2, e187, hx187_0, hx187_1, hx187_2, hx187_3, hx187_4, hx187_5, hl187_2, hi187_2⟩ := at_T43 HR0_1.out x78_2 p187 q187
          obtain rfl : ad186 = ad187 := (by injection e187)
          replace hx187_0 := (HB.out.cell (bL w _ hx187_0)).trans hx187_0
          replace hx187_1 := (HB.out.cell (bL w _ hx187_1)).trans hx187_1
          replace hx187_2 := (HB.out.cell (bL w _ hx187_2)).trans hx187_2
          replace hx187_3 := (HB.out.cell (bL w _ hx187_3)).trans hx187_3
          replace hx187_4 := (HB.out.cell (bL w _ hx187_4)).trans hx187_4
          replace hx187_5 := (HB.out.cell (bL w _ hx187_5)).trans hx187_5
          have HR187_2 := AM hi187_2
          have HC187_2 := AM hl187_2
          clear hi187_2 hl187_2
          replace p187 := eq_true p187
          replace q187 := eq_true q187
          have ea_ := Option.some.inj (hx186_2.symm.trans hx187_2)
          injection ea_ with ea_ en_ ec_
          subst ea_
          subst ec_
          clear en_
          have p188 : 0 ≤ ((rd l1_2 x78_2) : Int) := of_decide_eq_true (by first | (with_reducible assumption) | assumption)
          have q188 : (rd l1_2 x78_2) < (((rd_T43 l0_1 x78_2).f2).length : Int) := of_decide_eq_true (by first | (with_reducible assumption) | assumption)
          obtain ⟨ad188, e188, hx188_0, hx188_1, hx188_2⟩ := at_T41 HR187_2.out (rd l1_2 x78_2) p188 q188
          cases e188
          replace hx188_0 := (HB.out.cell (bL w _ hx188_0)).trans hx188_0
          replace hx188_1 := (HB.out.cell (bL w _ hx188_1)).trans hx188_1
          replace hx188_2 := (HB.out.cell (bL w _ hx188_2)).trans hx188_2
          replace p188 := eq_true p188
          replace q188 := eq_true q188
          go_wp2
          repeat (go_quiet (fail); try go_wp2)
          go_roundg k2
          case measure => have := HJ4.out; have := HK2.out; omega
          case rel => exact ⟨(wrap64 (x8_2 - ((rd_T41 ((rd_T43 l0_1 x78_2).f2) (rd l1_2 x78_2)).f1))), (wrap64 (x78_2 + 1)), (by first | rfl | (simp; done) | (simp [*]; done)), (by first | rfl | (simp; done) | (simp [*]; done)), H', ⟨by have := HJ4.out; have := HK2.out; omega⟩, ⟨by (with_reducible repeat (first | refine kD ?_ _ | refine k1_ ?_ | refine kA ?_ _)); exact BK179.out⟩, ⟨by (with_reducible repeat (first | refine kD ?_ _ | refine k1_ ?_ | refine kA ?_ _)); exact BK180.out⟩, ⟨by repeat (first | (with_reducible first | exact HB.out | apply bA | apply bD | apply b1 | refine bS ?_ GE179.out | refine bS ?_ GE180.out) | exact HB.out)⟩⟩
end Go.Proofs.YtdllkibfikcfbaaDoor.K
