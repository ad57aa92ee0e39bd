-- by a program of this session, over the kit's printer
import Derived.Test.YtdllkibfikcfbaaKx0
import Derived.Test.YtdllkibfikcfbaaKx6
import Derived.Test.YtdllkibfikcfbaaKx11
import Derived.Test.YtdllkibfikcfbaaKx12
namespace Go.Proofs.Ytdllkibfikcfbaa.K
open Go.RowKit Go.Proofs.YtdllkibfikcfbaaW.PrintWords Go.Proofs.YtdllkibfikcfbaaW.PrintLast Go.Proofs.YtdllkibfikcfbaaW.PrintMore
attribute [local go_sem] max2_int min2_int max_two min_two max_three min_three max_four min_four   -- for this text's walks alone
set_option linter.unusedVariables false
set_option linter.unusedSimpArgs false

/-! ### stipendlaw10_KeepBounds: function 5 -/
mutual
def stipendlaw10_KeepBounds.j0 : Nat → Bool → List (List (S41)) → List (S43) → List (S58) → Int → Int → Option (Bool)
  | 0, _, _, _, _, _, _ => none
  | k + 1, x18, x294000, x294001, x294002, x294003, x294004 => if x18 = true then (some true) else ((keep_Components.f x294000 x294001 x294002 x294003 x294004).bind fun t297 => (stipendlaw10_KeepBounds.l0 k t297 0 x294001 (x294001.length : Int) 0 x294000 x294001 x294002 x294003 x294004))
def stipendlaw10_KeepBounds.l0 : Nat → Int → Int → List (S43) → Int → Int → List (List (S41)) → List (S43) → List (S58) → Int → Int → Option (Bool)
  | 0, _, _, _, _, _, _, _, _, _, _ => none
  | k + 1, x3, x4, x22, x23, x24, x294000, x294001, x294002, x294003, x294004 => if x24 < x23 then (if 0 ≤ x24 then (if x24 < (x22.length : Int) then (stipendlaw10_KeepBounds.l0 k x3 (wrap64 (x4 + (((rd_T43 x22 x24).f2).length : Int))) x22 x23 (wrap64 (x24 + 1)) x294000 x294001 x294002 x294003 x294004) else (none)) else (none)) else (stipendlaw10_KeepBounds.l1 k x3 x4 x294000 (x294000.length : Int) 0 x294000 x294001 x294002 x294003 x294004)
def stipendlaw10_KeepBounds.l1 : Nat → Int → Int → List (List (S41)) → Int → Int → List (List (S41)) → List (S43) → List (S58) → Int → Int → Option (Bool)
  | 0, _, _, _, _, _, _, _, _, _, _ => none
  | k + 1, x3, x4, x35, x36, x37, x294000, x294001, x294002, x294003, x294004 => if x37 < x36 then (if 0 ≤ x37 then (if x37 < (x35.length : Int) then ((keep_Pieces.f k x294000 x294001 x294002 x294003 x294004).bind fun t301 => (if t301 < (wrap64 (x4 + ((rd_L2 x35 x37).length : Int))) then (some false) else (stipendlaw10_KeepBounds.l1 k x3 x4 x35 x36 (wrap64 (x37 + 1)) x294000 x294001 x294002 x294003 x294004))) else (none)) else (none)) else (if x3 ≤ 7 then (if x3 = (wrap64 ((x294001.length : Int) + 1)) then ((keep_Window.f x294000 x294001 x294002 x294003 x294004).bind fun t302 => (if t302 = (wrap64 ((wrap64 (40 * x3)) + 2)) then ((keep_Pieces.f k x294000 x294001 x294002 x294003 x294004).bind fun t303 => (some (decide (t303 ≤ 128)))) else (some false))) else (some false)) else (some false))
end
def stipendlaw10_KeepBounds.f (k : Nat) (l0_0 : List (List (S41))) (l0_1 : List (S43)) (l0_2 : List (S58)) (a0_3 : Int) (a0_4 : Int) : Option (Bool) := (stipendlaw10_keeps.f).bind fun t294 => (if t294 = true then ((stipendlaw10_small.f k l0_0 l0_1 l0_2 a0_3 a0_4).bind fun t295 => (if t295 = true then ((table_Check.f k l0_0 l0_1 l0_2 a0_3 a0_4).bind fun t296 => (stipendlaw10_KeepBounds.j0 k (t296 != 0) l0_0 l0_1 l0_2 a0_3 a0_4)) else (stipendlaw10_KeepBounds.j0 k true l0_0 l0_1 l0_2 a0_3 a0_4))) else (some false))
set_option maxHeartbeats 8000000 in
set_option maxRecDepth 100000 in
theorem stipendlaw10_KeepBounds.calls (k : Nat) (A0_0 : Option Addr) (c0_0 : Nat) (l0_0 : List (List (S41))) (A0_1 : Option Addr) (c0_1 : Nat) (l0_1 : List (S43)) (A0_2 : Option Addr) (c0_2 : Nat) (l0_2 : List (S58)) (a0_3 : Int) (a0_4 : Int) (r : Bool) (w : World) (hr0_0 : Kd.C (Kd.slice 41 k41) w A0_0 l0_0.length l0_0) (hc0_0 : l0_0.length ≤ c0_0) (hr0_1 : Kd.C k43 w A0_1 l0_1.length l0_1) (hc0_1 : l0_1.length ≤ c0_1) (hr0_2 : Kd.C k58 w A0_2 l0_2.length l0_2) (hc0_2 : l0_2.length ≤ c0_2) (hrt : r = true) (h : stipendlaw10_KeepBounds.f k l0_0 l0_1 l0_2 a0_3 a0_4 = some r) :
    Calls Try.prog 5 #[.agg #[.slice A0_0 l0_0.length c0_0, .slice A0_1 l0_1.length c0_1, .slice A0_2 l0_2.length c0_2, .int .i64 a0_3, .int .i64 a0_4]] w fun e w' => e = .returned (.bool r) ∧ Below w.heap.size w w' := by
  have HRT := AM hrt
  clear hrt
  have hu26 := Try.underlying26
  have hu43 := Try.underlying43
  have HR0_0 := AM hr0_0
  have HC0_0 := AM hc0_0
  clear hr0_0 hc0_0
  have HR0_1 := AM hr0_1
  have HC0_1 := AM hc0_1
  clear hr0_1 hc0_1
  have HR0_2 := AM hr0_2
  have HC0_2 := AM hc0_2
  clear hr0_2 hc0_2
  have HB := AM (Below.refl w.heap.size w)
  have H : ((stipendlaw10_keeps.f).bind fun t294 => (if t294 = true then ((stipendlaw10_small.f k l0_0 l0_1 l0_2 a0_3 a0_4).bind fun t295 => (if t295 = true then ((table_Check.f k l0_0 l0_1 l0_2 a0_3 a0_4).bind fun t296 => (stipendlaw10_KeepBounds.j0 k (t296 != 0) l0_0 l0_1 l0_2 a0_3 a0_4)) else (stipendlaw10_KeepBounds.j0 k true l0_0 l0_1 l0_2 a0_3 a0_4))) else (some false))) = some r := h
  clear h
  replace H := Option.bind_eq_some_iff.mp H
  obtain ⟨t294, A20, H⟩ := H
  replace H : (if t294 = true then ((stipendlaw10_small.f k l0_0 l0_1 l0_2 a0_3 a0_4).bind fun t295 => (if t295 = true then ((table_Check.f k l0_0 l0_1 l0_2 a0_3 a0_4).bind fun t296 => (stipendlaw10_KeepBounds.j0 k (t296 != 0) l0_0 l0_1 l0_2 a0_3 a0_4)) else (stipendlaw10_KeepBounds.j0 k true l0_0 l0_1 l0_2 a0_3 a0_4))) else (some false)) = some r := H
  have A2 := AM A20
  clear A20
  by_cases c3 : t294 = true
  rotate_left
  · replace c3 := Bool.eq_false_iff.mpr c3
    subst c3
    have H1 : (some false) = some r := by rw [if_neg (show ¬ (false = true) by decide)] at H; exact H
    clear H
    have H := H1
    clear H1
    exact absurd (Option.some.inj H) (by rw [HRT.out]; decide)

  subst c3
  have H1 : ((stipendlaw10_small.f k l0_0 l0_1 l0_2 a0_3 a0_4).bind fun t295 => (if t295 = true then ((table_Check.f k l0_0 l0_1 l0_2 a0_3 a0_4).bind fun t296 => (stipendlaw10_KeepBounds.j0 k (t296 != 0) l0_0 l0_1 l0_2 a0_3 a0_4)) else (stipendlaw10_KeepBounds.j0 k true l0_0 l0_1 l0_2 a0_3 a0_4))) = some r := by rw [if_pos rfl] at H; exact H
  clear H
  have H := H1
  clear H1
  have HC4 := AM H
  clear H
  go_enter Try.func5, Try.ntmps5
  go_upto_region 3 with (first | ((with_reducible refine gD (N := 1) rfl ?_); (try (refine gG (by rfl) ?_; dsimp only)); refine bE ?hg (N := 1) ?hd (cs := #[.slice A0_0 l0_0.length c0_0, .slice A0_1 l0_1.length c0_1, .slice A0_2 l0_2.length c0_2, .int .i64 a0_3, .int .i64 a0_4]) (t := 26) ?hr ?_; (case hd => rfl); (case hg => rfl); (case hr => first | (go_simp; done) | (go_simp; rfl)); intro gb293 hg w5 hbox hb; have n0_ := AM (bT (by repeat (first | (with_reducible first | exact HB.out | apply bA | apply bD | apply b1) | exact HB.out)) hb); have n1_ := AM (hbox); have n2_ := AM ((by rw [hg]; exact (bZ (by repeat (first | (with_reducible first | exact HB.out | apply bA | apply bD | apply b1) | exact HB.out))) : w.heap.size ≤ gb293)); have n3_ := AM ((by rw [hg]; exact (bZ (by repeat (first | (with_reducible first | exact HB.out | apply bA | apply bD | apply b1) | exact HB.out))) : w.heap.size ≤ gb293)); clear HB; have HB := n0_; have BK293 := n1_; have GW293 := n2_; have GE293 := n3_; clear n0_ n1_ n2_ n3_; clear hb hbox hg) | ((with_reducible refine gC (f := 7) rfl ?_); refine gL (some 9) rfl rfl Try.func7 (by kernel_rfl) rfl #[] rfl (by (try simp only [List.map_toArray, List.map_cons, List.map_nil]); first | done | rfl | (simp only [List.length_drop, List.length_take]; rfl)) ?_; (with_reducible refine (stipendlaw10_keeps.calls  true _ A2.out).mono ?_); rintro e w6 ⟨rfl, hb⟩; refine ⟨_, rfl, ?_⟩; have n0_ := AM (kB (g := gb293) (o := .cells #[.slice A0_0 l0_0.length c0_0, .slice A0_1 l0_1.length c0_1, .slice A0_2 l0_2.length c0_2, .int .i64 a0_3, .int .i64 a0_4] 26 (0, 0)) (by (with_reducible repeat (first | refine kD ?_ _ | refine k1_ ?_ | refine kA ?_ _)); exact BK293.out) hb); have n1_ := AM (bT (by repeat (first | (with_reducible first | exact HB.out | apply bA | apply bD | apply b1 | refine bS ?_ GE293.out) | exact HB.out)) hb); clear BK293; clear HB; have BK293 := n0_; have HB := n1_; clear n0_ n1_; (try clear hb); (try clear hb2); (try clear hk); (try clear hi)))
  (try simp only [Act.put, List.setIfInBounds_toArray, List.set_cons_zero, List.set_cons_succ])
  go_cut [18] (fun v18 wc => ∃ (kq : Nat) (x18_3 : Bool), v18 = .bool x18_3 ∧ Aside0 (stipendlaw10_KeepBounds.j0 kq x18_3 l0_0 l0_1 l0_2 a0_3 a0_4 = some r) ∧ Aside0 (kq ≤ k) ∧ Aside0 (wc.heap[gb293]? = some (.cells #[(.slice A0_0 l0_0.length c0_0), (.slice A0_1 l0_1.length c0_1), (.slice A0_2 l0_2.length c0_2), .int .i64 a0_3, .int .i64 a0_4] 26 (0, 0))) ∧ Aside0 (Below w.heap.size w wc))
  case first =>
    have H := HC4.out
    clear HC4
    replace H := Option.bind_eq_some_iff.mp H
    obtain ⟨t295, A70, H⟩ := H
    replace H : (if t295 = true then ((table_Check.f k l0_0 l0_1 l0_2 a0_3 a0_4).bind fun t296 => (stipendlaw10_KeepBounds.j0 k (t296 != 0) l0_0 l0_1 l0_2 a0_3 a0_4)) else (stipendlaw10_KeepBounds.j0 k true l0_0 l0_1 l0_2 a0_3 a0_4)) = some r := H
    have A7 := AM A70
    clear A70
    by_cases c8 : t295 = true
    rotate_left
    · replace c8 := Bool.eq_false_iff.mpr c8
      subst c8
      have H1 : (stipendlaw10_KeepBounds.j0 k true l0_0 l0_1 l0_2 a0_3 a0_4) = some r := by rw [if_neg (show ¬ (false = true) by decide)] at H; exact H
      clear H
      have H := H1
      clear H1
      have H' := AM H
      clear H
      have hcz14_0 : w6.cell? ⟨gb293, 0, none⟩ = some (.slice A0_0 l0_0.length c0_0) := (bC BK293.out 0).trans rfl
      have hcz14_1 : w6.cell? ⟨gb293, 1, none⟩ = some (.slice A0_1 l0_1.length c0_1) := (bC BK293.out 1).trans rfl
      have hcz14_2 : w6.cell? ⟨gb293, 2, none⟩ = some (.slice A0_2 l0_2.length c0_2) := (bC BK293.out 2).trans rfl
      have hcz14_3 : w6.cell? ⟨gb293, 3, none⟩ = some (.int .i64 a0_3) := (bC BK293.out 3).trans rfl
      have hcz14_4 : w6.cell? ⟨gb293, 4, none⟩ = some (.int .i64 a0_4) := (bC BK293.out 4).trans rfl
      have hfz14_0 := bF BK293.out 0
      have hfz14_1 := bF BK293.out 1
      have hfz14_2 := bF BK293.out 2
      have hfz14_3 := bF BK293.out 3
      have hfz14_4 := bF BK293.out 4
      go_wp2_with (first | ((with_reducible refine gC (f := 8) rfl ?_); refine gL (some 12) rfl rfl Try.func8 (by kernel_rfl) rfl #[.agg #[.slice A0_0 l0_0.length c0_0, .slice A0_1 l0_1.length c0_1, .slice A0_2 l0_2.length c0_2, .int .i64 a0_3, .int .i64 a0_4]] rfl (by (try simp only [List.map_toArray, List.map_cons, List.map_nil]); first | done | rfl | (simp only [List.length_drop, List.length_take]; rfl)) ?_; (with_reducible refine (stipendlaw10_small.calls k _ _ l0_0 _ _ l0_1 _ _ l0_2 a0_3 a0_4 false _ ?side1 ?side2 ?side3 ?side4 ?side5 ?side6 A7.out).mono ?_); (case side1 => repeat (first | exact (cB HR0_0.out HB.out) | (with_reducible refine cA ?_ _) | (with_reducible refine cD ?_ _) | (with_reducible refine c1_ ?_))); (case side2 => exact HC0_0.out); (case side3 => repeat (first | exact (cB HR0_1.out HB.out) | (with_reducible refine cA ?_ _) | (with_reducible refine cD ?_ _) | (with_reducible refine c1_ ?_))); (case side4 => exact HC0_1.out); (case side5 => repeat (first | exact (cB HR0_2.out HB.out) | (with_reducible refine cA ?_ _) | (with_reducible refine cD ?_ _) | (with_reducible refine c1_ ?_))); (case side6 => exact HC0_2.out); rintro e w15 ⟨rfl, hb⟩; refine ⟨_, rfl, ?_⟩; have n0_ := AM (kB (g := gb293) (o := .cells #[.slice A0_0 l0_0.length c0_0, .slice A0_1 l0_1.length c0_1, .slice A0_2 l0_2.length c0_2, .int .i64 a0_3, .int .i64 a0_4] 26 (0, 0)) (by (with_reducible repeat (first | refine kD ?_ _ | refine k1_ ?_ | refine kA ?_ _)); exact BK293.out) hb); have n1_ := AM (bT (by repeat (first | (with_reducible first | exact HB.out | apply bA | apply bD | apply b1 | refine bS ?_ GE293.out) | exact HB.out)) hb); clear BK293; clear HB; have BK293 := n0_; have HB := n1_; clear n0_ n1_; (try clear hb); (try clear hb2); (try clear hk); (try clear hi)))
      go_meet
      case rel => exact ⟨_, (true), (by first | rfl | (simp; done) | (simp [*]; done)), H', ⟨by first | omega | exact Nat.le_refl _⟩, ⟨by (with_reducible repeat (first | refine kD ?_ _ | refine k1_ ?_ | refine kA ?_ _)); exact BK293.out⟩, ⟨by repeat (first | (with_reducible first | exact HB.out | apply bA | apply bD | apply b1 | refine bS ?_ GE293.out) | exact HB.out)⟩⟩
    subst c8
    have H1 : ((table_Check.f k l0_0 l0_1 l0_2 a0_3 a0_4).bind fun t296 => (stipendlaw10_KeepBounds.j0 k (t296 != 0) l0_0 l0_1 l0_2 a0_3 a0_4)) = some r := by rw [if_pos rfl] at H; exact H
    clear H
    have H := H1
    clear H1
    replace H := Option.bind_eq_some_iff.mp H
    obtain ⟨t296, A90, H⟩ := H
    replace H : (stipendlaw10_KeepBounds.j0 k (t296 != 0) l0_0 l0_1 l0_2 a0_3 a0_4) = some r := H
    have A9 := AM A90
    clear A90
    have H' := AM H
    clear H
    have hcz10_0 : w6.cell? ⟨gb293, 0, none⟩ = some (.slice A0_0 l0_0.length c0_0) := (bC BK293.out 0).trans rfl
    have hcz10_1 : w6.cell? ⟨gb293, 1, none⟩ = some (.slice A0_1 l0_1.length c0_1) := (bC BK293.out 1).trans rfl
    have hcz10_2 : w6.cell? ⟨gb293, 2, none⟩ = some (.slice A0_2 l0_2.length c0_2) := (bC BK293.out 2).trans rfl
    have hcz10_3 : w6.cell? ⟨gb293, 3, none⟩ = some (.int .i64 a0_3) := (bC BK293.out 3).trans rfl
    have hcz10_4 : w6.cell? ⟨gb293, 4, none⟩ = some (.int .i64 a0_4) := (bC BK293.out 4).trans rfl
    have hfz10_0 := bF BK293.out 0
    have hfz10_1 := bF BK293.out 1
    have hfz10_2 := bF BK293.out 2
    have hfz10_3 := bF BK293.out 3
    have hfz10_4 := bF BK293.out 4
    go_wp2_with (first | ((with_reducible refine gC (f := 8) rfl ?_); refine gL (some 12) rfl rfl Try.func8 (by kernel_rfl) rfl #[.agg #[.slice A0_0 l0_0.length c0_0, .slice A0_1 l0_1.length c0_1, .slice A0_2 l0_2.length c0_2, .int .i64 a0_3, .int .i64 a0_4]] rfl (by (try simp only [List.map_toArray, List.map_cons, List.map_nil]); first | done | rfl | (simp only [List.length_drop, List.length_take]; rfl)) ?_; (with_reducible refine (stipendlaw10_small.calls k _ _ l0_0 _ _ l0_1 _ _ l0_2 a0_3 a0_4 true _ ?side1 ?side2 ?side3 ?side4 ?side5 ?side6 A7.out).mono ?_); (case side1 => repeat (first | exact (cB HR0_0.out HB.out) | (with_reducible refine cA ?_ _) | (with_reducible refine cD ?_ _) | (with_reducible refine c1_ ?_))); (case side2 => exact HC0_0.out); (case side3 => repeat (first | exact (cB HR0_1.out HB.out) | (with_reducible refine cA ?_ _) | (with_reducible refine cD ?_ _) | (with_reducible refine c1_ ?_))); (case side4 => exact HC0_1.out); (case side5 => repeat (first | exact (cB HR0_2.out HB.out) | (with_reducible refine cA ?_ _) | (with_reducible refine cD ?_ _) | (with_reducible refine c1_ ?_))); (case side6 => exact HC0_2.out); rintro e w11 ⟨rfl, hb⟩; refine ⟨_, rfl, ?_⟩; have n0_ := AM (kB (g := gb293) (o := .cells #[.slice A0_0 l0_0.length c0_0, .slice A0_1 l0_1.length c0_1, .slice A0_2 l0_2.length c0_2, .int .i64 a0_3, .int .i64 a0_4] 26 (0, 0)) (by (with_reducible repeat (first | refine kD ?_ _ | refine k1_ ?_ | refine kA ?_ _)); exact BK293.out) hb); have n1_ := AM (bT (by repeat (first | (with_reducible first | exact HB.out | apply bA | apply bD | apply b1 | refine bS ?_ GE293.out) | exact HB.out)) hb); clear BK293; clear HB; have BK293 := n0_; have HB := n1_; clear n0_ n1_; (try clear hb); (try clear hb2); (try clear hk); (try clear hi); have hcz12_0 : w11.cell? ⟨gb293, 0, none⟩ = some (.slice A0_0 l0_0.length c0_0) := (bC BK293.out 0).trans rfl; have hcz12_1 : w11.cell? ⟨gb293, 1, none⟩ = some (.slice A0_1 l0_1.length c0_1) := (bC BK293.out 1).trans rfl; have hcz12_2 : w11.cell? ⟨gb293, 2, none⟩ = some (.slice A0_2 l0_2.length c0_2) := (bC BK293.out 2).trans rfl; have hcz12_3 : w11.cell? ⟨gb293, 3, none⟩ = some (.int .i64 a0_3) := (bC BK293.out 3).trans rfl; have hcz12_4 : w11.cell? ⟨gb293, 4, none⟩ = some (.int .i64 a0_4) := (bC BK293.out 4).trans rfl; have hfz12_0 := bF BK293.out 0; have hfz12_1 := bF BK293.out 1; have hfz12_2 := bF BK293.out 2; have hfz12_3 := bF BK293.out 3; have hfz12_4 := bF BK293.out 4) | (go_at_call 10; (with_reducible refine (table_Check.calls k _ _ l0_0 _ _ l0_1 _ _ l0_2 a0_3 a0_4 t296 _ ?side1 ?side2 ?side3 ?side4 ?side5 ?side6 A9.out).mono ?_); (case side1 => repeat (first | exact (cB HR0_0.out HB.out) | (with_reducible refine cA ?_ _) | (with_reducible refine cD ?_ _) | (with_reducible refine c1_ ?_))); (case side2 => exact HC0_0.out); (case side3 => repeat (first | exact (cB HR0_1.out HB.out) | (with_reducible refine cA ?_ _) | (with_reducible refine cD ?_ _) | (with_reducible refine c1_ ?_))); (case side4 => exact HC0_1.out); (case side5 => repeat (first | exact (cB HR0_2.out HB.out) | (with_reducible refine cA ?_ _) | (with_reducible refine cD ?_ _) | (with_reducible refine c1_ ?_))); (case side6 => exact HC0_2.out); rintro e w13 ⟨rfl, hb⟩; have n0_ := AM (kB (g := gb293) (o := .cells #[.slice A0_0 l0_0.length c0_0, .slice A0_1 l0_1.length c0_1, .slice A0_2 l0_2.length c0_2, .int .i64 a0_3, .int .i64 a0_4] 26 (0, 0)) (by (with_reducible repeat (first | refine kD ?_ _ | refine k1_ ?_ | refine kA ?_ _)); exact BK293.out) hb); have n1_ := AM (bT (by repeat (first | (with_reducible first | exact HB.out | apply bA | apply bD | apply b1 | refine bS ?_ GE293.out) | exact HB.out)) hb); clear BK293; clear HB; have BK293 := n0_; have HB := n1_; clear n0_ n1_; (try clear hb); (try clear hb2); (try clear hk); (try clear hi)))
    go_meet
    case rel => exact ⟨_, ((t296 != 0)), (by first | rfl | (simp; done) | (simp [*]; done)), H', ⟨by first | omega | exact Nat.le_refl _⟩, ⟨by (with_reducible repeat (first | refine kD ?_ _ | refine k1_ ?_ | refine kA ?_ _)); exact BK293.out⟩, ⟨by repeat (first | (with_reducible first | exact HB.out | apply bA | apply bD | apply b1 | refine bS ?_ GE293.out) | exact HB.out)⟩⟩
  case rest =>
    clear HC4
    obtain ⟨kq, x18_3, rfl, HA, HJ3, BK293, HB⟩ := hcut
    cases kq with
    | zero => exact absurd HA.out (by simp [stipendlaw10_KeepBounds.j0])
    | succ kj3 =>
      have H := HA.out
      clear HA
      simp only [stipendlaw10_KeepBounds.j0] at H
      by_cases c16 : x18_3 = true
      · subst c16
        have H1 : (some true) = some r := by rw [if_pos rfl] at H; exact H
        clear H
        have H := H1
        clear H1
        obtain rfl := Option.some.inj H
        go_wp2
        go_ret
        exact ⟨by first | rfl | (simp [errW_none, errW_some] <;> rfl) | (simp [*, errW_none, errW_some] <;> rfl), by repeat (first | (with_reducible first | exact HB.out | apply bA | apply bD | apply b1 | refine bS ?_ GE293.out) | exact HB.out)⟩
      replace c16 := Bool.eq_false_iff.mpr c16
      subst c16
      have H1 : ((keep_Components.f l0_0 l0_1 l0_2 a0_3 a0_4).bind fun t297 => (stipendlaw10_KeepBounds.l0 kj3 t297 0 l0_1 (l0_1.length : Int) 0 l0_0 l0_1 l0_2 a0_3 a0_4)) = some r := by rw [if_neg (show ¬ (false = true) by decide)] at H; exact H
      clear H
      have H := H1
      clear H1
      replace H := Option.bind_eq_some_iff.mp H
      obtain ⟨t297, A170, H⟩ := H
      replace H : (stipendlaw10_KeepBounds.l0 kj3 t297 0 l0_1 (l0_1.length : Int) 0 l0_0 l0_1 l0_2 a0_3 a0_4) = some r := H
      have A17 := AM A170
      clear A170
      have H' := AM H
      clear H
      have hcz18_0 : wc.cell? ⟨gb293, 0, none⟩ = some (.slice A0_0 l0_0.length c0_0) := (bC BK293.out 0).trans rfl
      have hcz18_1 : wc.cell? ⟨gb293, 1, none⟩ = some (.slice A0_1 l0_1.length c0_1) := (bC BK293.out 1).trans rfl
      have hcz18_2 : wc.cell? ⟨gb293, 2, none⟩ = some (.slice A0_2 l0_2.length c0_2) := (bC BK293.out 2).trans rfl
      have hcz18_3 : wc.cell? ⟨gb293, 3, none⟩ = some (.int .i64 a0_3) := (bC BK293.out 3).trans rfl
      have hcz18_4 : wc.cell? ⟨gb293, 4, none⟩ = some (.int .i64 a0_4) := (bC BK293.out 4).trans rfl
      have hfz18_0 := bF BK293.out 0
      have hfz18_1 := bF BK293.out 1
      have hfz18_2 := bF BK293.out 2
      have hfz18_3 := bF BK293.out 3
      have hfz18_4 := bF BK293.out 4
      go_wp2_with (first | ((with_reducible refine gC (f := 14) rfl ?_); refine gL (some 20) rfl rfl Try.func14 (by kernel_rfl) rfl #[.agg #[.slice A0_0 l0_0.length c0_0, .slice A0_1 l0_1.length c0_1, .slice A0_2 l0_2.length c0_2, .int .i64 a0_3, .int .i64 a0_4]] rfl (by (try simp only [List.map_toArray, List.map_cons, List.map_nil]); first | done | rfl | (simp only [List.length_drop, List.length_take]; rfl)) ?_; (with_reducible refine (keep_Components.calls _ _ l0_0 _ _ l0_1 _ _ l0_2 a0_3 a0_4 t297 _ ?side1 ?side2 ?side3 ?side4 ?side5 ?side6 A17.out).mono ?_); (case side1 => repeat (first | exact (cB HR0_0.out HB.out) | (with_reducible refine cA ?_ _) | (with_reducible refine cD ?_ _) | (with_reducible refine c1_ ?_))); (case side2 => exact HC0_0.out); (case side3 => repeat (first | exact (cB HR0_1.out HB.out) | (with_reducible refine cA ?_ _) | (with_reducible refine cD ?_ _) | (with_reducible refine c1_ ?_))); (case side4 => exact HC0_1.out); (case side5 => repeat (first | exact (cB HR0_2.out HB.out) | (with_reducible refine cA ?_ _) | (with_reducible refine cD ?_ _) | (with_reducible refine c1_ ?_))); (case side6 => exact HC0_2.out); rintro e w19 ⟨rfl, hb⟩; refine ⟨_, rfl, ?_⟩; have n0_ := AM (kB (g := gb293) (o := .cells #[.slice A0_0 l0_0.length c0_0, .slice A0_1 l0_1.length c0_1, .slice A0_2 l0_2.length c0_2, .int .i64 a0_3, .int .i64 a0_4] 26 (0, 0)) (by (with_reducible repeat (first | refine kD ?_ _ | refine k1_ ?_ | refine kA ?_ _)); exact BK293.out) hb); have n1_ := AM (bT (by repeat (first | (with_reducible first | exact HB.out | apply bA | apply bD | apply b1 | refine bS ?_ GE293.out) | exact HB.out)) hb); clear BK293; clear HB; have BK293 := n0_; have HB := n1_; clear n0_ n1_; (try clear hb); (try clear hb2); (try clear hk); (try clear hi); have hcz20_0 : w19.cell? ⟨gb293, 0, none⟩ = some (.slice A0_0 l0_0.length c0_0) := (bC BK293.out 0).trans rfl; have hcz20_1 : w19.cell? ⟨gb293, 1, none⟩ = some (.slice A0_1 l0_1.length c0_1) := (bC BK293.out 1).trans rfl; have hcz20_2 : w19.cell? ⟨gb293, 2, none⟩ = some (.slice A0_2 l0_2.length c0_2) := (bC BK293.out 2).trans rfl; have hcz20_3 : w19.cell? ⟨gb293, 3, none⟩ = some (.int .i64 a0_3) := (bC BK293.out 3).trans rfl; have hcz20_4 : w19.cell? ⟨gb293, 4, none⟩ = some (.int .i64 a0_4) := (bC BK293.out 4).trans rfl; have hfz20_0 := bF BK293.out 0; have hfz20_1 := bF BK293.out 1; have hfz20_2 := bF BK293.out 2; have hfz20_3 := bF BK293.out 3; have hfz20_4 := bF BK293.out 4))
      go_loopg [4, 24] kj3 (fun kq v4 v24 w' => ∃ (x4_2 : Int) (x24_2 : Int), v4 = .int .i64 x4_2 ∧ v24 = .int .i64 x24_2 ∧ Aside0 (stipendlaw10_KeepBounds.l0 kq t297 x4_2 l0_1 (l0_1.length : Int) x24_2 l0_0 l0_1 l0_2 a0_3 a0_4 = some r) ∧ Aside0 (kq ≤ kj3) ∧ Aside0 (w'.heap[gb293]? = some (.cells #[(.slice A0_0 l0_0.length c0_0), (.slice A0_1 l0_1.length c0_1), (.slice A0_2 l0_2.length c0_2), .int .i64 a0_3, .int .i64 a0_4] 26 (0, 0))) ∧ Aside0 (Below w.heap.size w w'))
      case atStart => exact ⟨(0), (0), (by first | rfl | (simp; done) | (simp [*]; done)), (by first | rfl | (simp; done) | (simp [*]; done)), H', ⟨Nat.le_refl _⟩, ⟨by (with_reducible repeat (first | refine kD ?_ _ | refine k1_ ?_ | refine kA ?_ _)); exact BK293.out⟩, ⟨by repeat (first | (with_reducible first | exact HB.out | apply bA | apply bD | apply b1 | refine bS ?_ GE293.out) | exact HB.out)⟩⟩
      case round =>
        clear H'
        obtain ⟨x4_2, x24_2, rfl, rfl, HA, HK2, BK293, HB⟩ := hrel
        cases gk with
        | zero => exact absurd HA.out (by simp [stipendlaw10_KeepBounds.l0])
        | succ k2 =>
          have H := HA.out
          clear HA
          simp only [stipendlaw10_KeepBounds.l0] at H
          by_cases c21 : x24_2 < (l0_1.length : Int)
          · rw [if_pos c21] at H
            have c21b0 : decide (x24_2 < (l0_1.length : Int)) = true := decide_eq_true c21
            clear c21
            by_cases c22 : 0 ≤ x24_2
            rotate_left
            · rw [if_neg c22] at H
              exact absurd H (by simp)
            rw [if_pos c22] at H
            have c22b0 : decide (0 ≤ x24_2) = true := decide_eq_true c22
            clear c22
            by_cases c23 : x24_2 < (l0_1.length : Int)
            rotate_left
            · rw [if_neg c23] at H
              exact absurd H (by simp)
            rw [if_pos c23] at H
            have c23b0 : decide (x24_2 < (l0_1.length : Int)) = true := decide_eq_true c23
            clear c23
            have H' := AM H
            clear H
            have p298 : 0 ≤ (x24_2 : Int) := of_decide_eq_true (by first | (with_reducible assumption) | assumption)
            have q298 : x24_2 < (l0_1.length : Int) := of_decide_eq_true (by first | (with_reducible assumption) | assumption)
            obtain ⟨ad298, A298_2, c298_2, e298, hx298_0, hx298_1, hx298_2, hx298_3, hx298_4, hx298_5, hl298_2, hi298_2⟩ := at_T43 HR0_1.out x24_2 p298 q298
            cases e298
            replace hx298_0 := (HB.out.cell (bL w _ hx298_0)).trans hx298_0
            replace hx298_1 := (HB.out.cell (bL w _ hx298_1)).trans hx298_1
            replace hx298_2 := (HB.out.cell (bL w _ hx298_2)).trans hx298_2
            replace hx298_3 := (HB.out.cell (bL w _ hx298_3)).trans hx298_3
            replace hx298_4 := (HB.out.cell (bL w _ hx298_4)).trans hx298_4
            replace hx298_5 := (HB.out.cell (bL w _ hx298_5)).trans hx298_5
            have HR298_2 := AM hi298_2
            have HC298_2 := AM hl298_2
            clear hi298_2 hl298_2
            replace p298 := eq_true p298
            replace q298 := eq_true q298
            go_wp2_with (first | ((with_reducible refine gD (N := 6) rfl ?_); (try (refine gG (by rfl) ?_; dsimp only)); refine bE ?hg (N := 6) ?hd (cs := #[.string (⟨#[]⟩ : ByteArray), .int .i64 0, .slice none 0 0, .int .i64 0, .int .i64 0, .int .i64 0]) (t := 43) ?hr ?_; (case hd => rfl); (case hg => rfl); (case hr => first | (go_simp; done) | (go_simp; rfl)); intro gb299 hg w24 hbox hb; have n0_ := AM (kB (g := gb293) (o := .cells #[.slice A0_0 l0_0.length c0_0, .slice (some ad298) l0_1.length c0_1, .slice A0_2 l0_2.length c0_2, .int .i64 a0_3, .int .i64 a0_4] 26 (0, 0)) (by (with_reducible repeat (first | refine kD ?_ _ | refine k1_ ?_ | refine kA ?_ _)); exact BK293.out) hb); have n1_ := AM (bT (by repeat (first | (with_reducible first | exact HB.out | apply bA | apply bD | apply b1 | refine bS ?_ GE293.out) | exact HB.out)) hb); have n2_ := AM (hbox); have n3_ := AM ((by rw [hg]; exact (bZ (by repeat (first | (with_reducible first | exact HB.out | apply bA | apply bD | apply b1 | refine bS ?_ GE293.out) | exact HB.out))) : w.heap.size ≤ gb299)); have n4_ := AM ((by rw [hg]; exact (bZ (by repeat (first | (with_reducible first | exact HB.out | apply bA | apply bD | apply b1 | refine bS ?_ GE293.out) | exact HB.out))) : w.heap.size ≤ gb299)); have n5_ := AM ((by rw [hg]; exact Nat.ne_of_lt (blk_lt (g := gb293) (o := .cells #[.slice A0_0 l0_0.length c0_0, .slice (some ad298) l0_1.length c0_1, .slice A0_2 l0_2.length c0_2, .int .i64 a0_3, .int .i64 a0_4] 26 (0, 0)) (by (with_reducible repeat (first | refine kD ?_ _ | refine k1_ ?_ | refine kA ?_ _)); exact BK293.out)) : gb293 ≠ gb299)); have n6_ := AM ((by rw [hg]; exact Nat.ne_of_gt (blk_lt (g := gb293) (o := .cells #[.slice A0_0 l0_0.length c0_0, .slice (some ad298) l0_1.length c0_1, .slice A0_2 l0_2.length c0_2, .int .i64 a0_3, .int .i64 a0_4] 26 (0, 0)) (by (with_reducible repeat (first | refine kD ?_ _ | refine k1_ ?_ | refine kA ?_ _)); exact BK293.out)) : gb299 ≠ gb293)); clear BK293; clear HB; have BK293 := n0_; have HB := n1_; have BK299 := n2_; have GW299 := n3_; have GE299 := n4_; have NB293_299 := n5_; have NB299_293 := n6_; clear n0_ n1_ n2_ n3_ n4_ n5_ n6_; clear hb hbox hg; have hnb25 := NB299_293.out; have hnc25 := NB293_299.out; have hcz26_0 : w24.cell? ⟨gb299, 0, none⟩ = some (.string (⟨#[]⟩ : ByteArray)) := (bC BK299.out 0).trans rfl; have hcz26_1 : w24.cell? ⟨gb299, 1, none⟩ = some (.int .i64 0) := (bC BK299.out 1).trans rfl; have hcz26_2 : w24.cell? ⟨gb299, 2, none⟩ = some (.slice none 0 0) := (bC BK299.out 2).trans rfl; have hcz26_3 : w24.cell? ⟨gb299, 3, none⟩ = some (.int .i64 0) := (bC BK299.out 3).trans rfl; have hcz26_4 : w24.cell? ⟨gb299, 4, none⟩ = some (.int .i64 0) := (bC BK299.out 4).trans rfl; have hcz26_5 : w24.cell? ⟨gb299, 5, none⟩ = some (.int .i64 0) := (bC BK299.out 5).trans rfl; have hfz26_0 := bF BK299.out 0; have hfz26_1 := bF BK299.out 1; have hfz26_2 := bF BK299.out 2; have hfz26_3 := bF BK299.out 3; have hfz26_4 := bF BK299.out 4; have hfz26_5 := bF BK299.out 5))
            go_roundg k2
            case measure => have := HJ3.out; have := HK2.out; omega
            case rel => exact ⟨(wrap64 (x4_2 + (((rd_T43 l0_1 x24_2).f2).length : Int))), (wrap64 (x24_2 + 1)), (by first | rfl | (simp; done) | (simp [*]; done)), (by first | rfl | (simp; done) | (simp [*]; done)), H', ⟨by have := HJ3.out; have := HK2.out; omega⟩, ⟨by (with_reducible repeat (first | refine kD ?_ _ | refine k1_ ?_ | refine kA ?_ _)); refine kF ?_ NB293_299.out _; (with_reducible repeat (first | refine kD ?_ _ | refine k1_ ?_ | refine kA ?_ _)); refine kF ?_ NB293_299.out _; (with_reducible repeat (first | refine kD ?_ _ | refine k1_ ?_ | refine kA ?_ _)); refine kF ?_ NB293_299.out _; (with_reducible repeat (first | refine kD ?_ _ | refine k1_ ?_ | refine kA ?_ _)); refine kF ?_ NB293_299.out _; (with_reducible repeat (first | refine kD ?_ _ | refine k1_ ?_ | refine kA ?_ _)); refine kF ?_ NB293_299.out _; (with_reducible repeat (first | refine kD ?_ _ | refine k1_ ?_ | refine kA ?_ _)); refine kF ?_ NB293_299.out _; (with_reducible repeat (first | refine kD ?_ _ | refine k1_ ?_ | refine kA ?_ _)); exact BK293.out⟩, ⟨by repeat (first | (with_reducible first | exact HB.out | apply bA | apply bD | apply b1 | refine bS ?_ GE293.out | refine bS ?_ GE299.out) | exact HB.out)⟩⟩
          rw [if_neg c21] at H
          have c21b0 : decide (x24_2 < (l0_1.length : Int)) = false := decide_eq_false c21
          clear c21
          have H' := AM H
          clear H
          have hcz27_0 : wr.cell? ⟨gb293, 0, none⟩ = some (.slice A0_0 l0_0.length c0_0) := (bC BK293.out 0).trans rfl
          have hcz27_1 : wr.cell? ⟨gb293, 1, none⟩ = some (.slice A0_1 l0_1.length c0_1) := (bC BK293.out 1).trans rfl
          have hcz27_2 : wr.cell? ⟨gb293, 2, none⟩ = some (.slice A0_2 l0_2.length c0_2) := (bC BK293.out 2).trans rfl
          have hcz27_3 : wr.cell? ⟨gb293, 3, none⟩ = some (.int .i64 a0_3) := (bC BK293.out 3).trans rfl
          have hcz27_4 : wr.cell? ⟨gb293, 4, none⟩ = some (.int .i64 a0_4) := (bC BK293.out 4).trans rfl
          have hfz27_0 := bF BK293.out 0
          have hfz27_1 := bF BK293.out 1
          have hfz27_2 := bF BK293.out 2
          have hfz27_3 := bF BK293.out 3
          have hfz27_4 := bF BK293.out 4
          go_wp2
          go_loopg [37] k2 (fun kq v37 w' => ∃ (x37_3 : Int), v37 = .int .i64 x37_3 ∧ Aside0 (stipendlaw10_KeepBounds.l1 kq t297 x4_2 l0_0 (l0_0.length : Int) x37_3 l0_0 l0_1 l0_2 a0_3 a0_4 = some r) ∧ Aside0 (kq ≤ k2) ∧ Aside0 (w'.heap[gb293]? = some (.cells #[(.slice A0_0 l0_0.length c0_0), (.slice A0_1 l0_1.length c0_1), (.slice A0_2 l0_2.length c0_2), .int .i64 a0_3, .int .i64 a0_4] 26 (0, 0))) ∧ Aside0 (Below w.heap.size w w'))
          case atStart => exact ⟨(0), (by first | rfl | (simp; done) | (simp [*]; done)), H', ⟨Nat.le_refl _⟩, ⟨by (with_reducible repeat (first | refine kD ?_ _ | refine k1_ ?_ | refine kA ?_ _)); exact BK293.out⟩, ⟨by repeat (first | (with_reducible first | exact HB.out | apply bA | apply bD | apply b1 | refine bS ?_ GE293.out) | exact HB.out)⟩⟩
          case round =>
            clear H'
            obtain ⟨x37_3, rfl, HA, HK3, BK293, HB⟩ := hrel
            cases gk with
            | zero => exact absurd HA.out (by simp [stipendlaw10_KeepBounds.l1])
            | succ k3 =>
              have H := HA.out
              clear HA
              simp only [stipendlaw10_KeepBounds.l1] at H
              by_cases c28 : x37_3 < (l0_0.length : Int)
              · rw [if_pos c28] at H
                have c28b0 : decide (x37_3 < (l0_0.length : Int)) = true := decide_eq_true c28
                clear c28
                by_cases c29 : 0 ≤ x37_3
                rotate_left
                · rw [if_neg c29] at H
                  exact absurd H (by simp)
                rw [if_pos c29] at H
                have c29b0 : decide (0 ≤ x37_3) = true := decide_eq_true c29
                clear c29
                by_cases c30 : x37_3 < (l0_0.length : Int)
                rotate_left
                · rw [if_neg c30] at H
                  exact absurd H (by simp)
                rw [if_pos c30] at H
                have c30b0 : decide (x37_3 < (l0_0.length : Int)) = true := decide_eq_true c30
                clear c30
                replace H := Option.bind_eq_some_iff.mp H
                obtain ⟨t301, A310, H⟩ := H
                replace H : (if t301 < (wrap64 (x4_2 + ((rd_L2 l0_0 x37_3).length : Int))) then (some false) else (stipendlaw10_KeepBounds.l1 k3 t297 x4_2 l0_0 (l0_0.length : Int) (wrap64 (x37_3 + 1)) l0_0 l0_1 l0_2 a0_3 a0_4)) = some r := H
                have A31 := AM A310
                clear A310
                by_cases c32 : t301 < (wrap64 (x4_2 + ((rd_L2 l0_0 x37_3).length : Int)))
                · rw [if_pos c32] at H
                  have c32b0 : decide (t301 < (wrap64 (x4_2 + ((rd_L2 l0_0 x37_3).length : Int)))) = true := decide_eq_true c32
                  clear c32
                  exact absurd (Option.some.inj H) (by rw [HRT.out]; decide)
                rw [if_neg c32] at H
                have c32b0 : decide (t301 < (wrap64 (x4_2 + ((rd_L2 l0_0 x37_3).length : Int)))) = false := decide_eq_false c32
                clear c32
                have H' := AM H
                clear H
                have p300 : 0 ≤ (x37_3 : Int) := of_decide_eq_true (by first | (with_reducible assumption) | assumption)
                have q300 : x37_3 < (l0_0.length : Int) := of_decide_eq_true (by first | (with_reducible assumption) | assumption)
                obtain ⟨ad300, A300_0, c300_0, e300, hx300_0, hl300_0, hi300_0⟩ := at_L2 HR0_0.out x37_3 p300 q300
                cases e300
                replace hx300_0 := (HB.out.cell (bL w _ hx300_0)).trans hx300_0
                have HR300_0 := AM hi300_0
                have HC300_0 := AM hl300_0
                clear hi300_0 hl300_0
                replace p300 := eq_true p300
                replace q300 := eq_true q300
                have hcz33_0 : wr.cell? ⟨gb293, 0, none⟩ = some (.slice (some ad300) l0_0.length c0_0) := (bC BK293.out 0).trans rfl
                have hcz33_1 : wr.cell? ⟨gb293, 1, none⟩ = some (.slice A0_1 l0_1.length c0_1) := (bC BK293.out 1).trans rfl
                have hcz33_2 : wr.cell? ⟨gb293, 2, none⟩ = some (.slice A0_2 l0_2.length c0_2) := (bC BK293.out 2).trans rfl
                have hcz33_3 : wr.cell? ⟨gb293, 3, none⟩ = some (.int .i64 a0_3) := (bC BK293.out 3).trans rfl
                have hcz33_4 : wr.cell? ⟨gb293, 4, none⟩ = some (.int .i64 a0_4) := (bC BK293.out 4).trans rfl
                have hfz33_0 := bF BK293.out 0
                have hfz33_1 := bF BK293.out 1
                have hfz33_2 := bF BK293.out 2
                have hfz33_3 := bF BK293.out 3
                have hfz33_4 := bF BK293.out 4
                go_wp2_with (first | ((with_reducible refine gC (f := 15) rfl ?_); refine gL (some 42) rfl rfl Try.func15 (by kernel_rfl) rfl #[.agg #[.slice (some ad300) l0_0.length c0_0, .slice A0_1 l0_1.length c0_1, .slice A0_2 l0_2.length c0_2, .int .i64 a0_3, .int .i64 a0_4]] rfl (by (try simp only [List.map_toArray, List.map_cons, List.map_nil]); first | done | rfl | (simp only [List.length_drop, List.length_take]; rfl)) ?_; (with_reducible refine (keep_Pieces.calls k3 _ _ l0_0 _ _ l0_1 _ _ l0_2 a0_3 a0_4 t301 _ ?side1 ?side2 ?side3 ?side4 ?side5 ?side6 A31.out).mono ?_); (case side1 => repeat (first | exact (cB HR0_0.out HB.out) | (with_reducible refine cA ?_ _) | (with_reducible refine cD ?_ _) | (with_reducible refine c1_ ?_))); (case side2 => exact HC0_0.out); (case side3 => repeat (first | exact (cB HR0_1.out HB.out) | (with_reducible refine cA ?_ _) | (with_reducible refine cD ?_ _) | (with_reducible refine c1_ ?_))); (case side4 => exact HC0_1.out); (case side5 => repeat (first | exact (cB HR0_2.out HB.out) | (with_reducible refine cA ?_ _) | (with_reducible refine cD ?_ _) | (with_reducible refine c1_ ?_))); (case side6 => exact HC0_2.out); rintro e w34 ⟨rfl, hb⟩; refine ⟨_, rfl, ?_⟩; have n0_ := AM (kB (g := gb293) (o := .cells #[.slice (some ad300) l0_0.length c0_0, .slice A0_1 l0_1.length c0_1, .slice A0_2 l0_2.length c0_2, .int .i64 a0_3, .int .i64 a0_4] 26 (0, 0)) (by (with_reducible repeat (first | refine kD ?_ _ | refine k1_ ?_ | refine kA ?_ _)); exact BK293.out) hb); have n1_ := AM (bT (by repeat (first | (with_reducible first | exact HB.out | apply bA | apply bD | apply b1 | refine bS ?_ GE293.out) | exact HB.out)) hb); clear BK293; clear HB; have BK293 := n0_; have HB := n1_; clear n0_ n1_; (try clear hb); (try clear hb2); (try clear hk); (try clear hi)))
                go_roundg k3
                case measure => have := HJ3.out; have := HK2.out; have := HK3.out; omega
                case rel => exact ⟨(wrap64 (x37_3 + 1)), (by first | rfl | (simp; done) | (simp [*]; done)), H', ⟨by have := HJ3.out; have := HK2.out; have := HK3.out; omega⟩, ⟨by (with_reducible repeat (first | refine kD ?_ _ | refine k1_ ?_ | refine kA ?_ _)); exact BK293.out⟩, ⟨by repeat (first | (with_reducible first | exact HB.out | apply bA | apply bD | apply b1 | refine bS ?_ GE293.out) | exact HB.out)⟩⟩
              rw [if_neg c28] at H
              have c28b0 : decide (x37_3 < (l0_0.length : Int)) = false := decide_eq_false c28
              clear c28
              by_cases c35 : t297 ≤ 7
              rotate_left
              · rw [if_neg c35] at H
                have c35b0 : decide (t297 ≤ 7) = false := decide_eq_false c35
                clear c35
                exact absurd (Option.some.inj H) (by rw [HRT.out]; decide)
              rw [if_pos c35] at H
              have c35b0 : decide (t297 ≤ 7) = true := decide_eq_true c35
              clear c35
              by_cases c36 : t297 = (wrap64 ((l0_1.length : Int) + 1))
              rotate_left
              · rw [if_neg c36] at H
                have c36b0 : (t297 == (wrap64 ((l0_1.length : Int) + 1))) = false := beq_eq_false_iff_ne.mpr c36
                have c36b1 : (t297 != (wrap64 ((l0_1.length : Int) + 1))) = true := bne_iff_ne.mpr c36
                exact absurd (Option.some.inj H) (by rw [HRT.out]; decide)
              rw [if_pos c36] at H
              have c36b0 : (t297 == (wrap64 ((l0_1.length : Int) + 1))) = true := beq_iff_eq.mpr c36
              have c36b1 : (t297 != (wrap64 ((l0_1.length : Int) + 1))) = false := bne_eq_false_iff_eq.mpr c36
              clear c36
              replace H := Option.bind_eq_some_iff.mp H
              obtain ⟨t302, A370, H⟩ := H
              replace H : (if t302 = (wrap64 ((wrap64 (40 * t297)) + 2)) then ((keep_Pieces.f k3 l0_0 l0_1 l0_2 a0_3 a0_4).bind fun t303 => (some (decide (t303 ≤ 128)))) else (some false)) = some r := H
              have A37 := AM A370
              clear A370
              by_cases c38 : t302 = (wrap64 ((wrap64 (40 * t297)) + 2))
              rotate_left
              · rw [if_neg c38] at H
                have c38b0 : (t302 == (wrap64 ((wrap64 (40 * t297)) + 2))) = false := beq_eq_false_iff_ne.mpr c38
                have c38b1 : (t302 != (wrap64 ((wrap64 (40 * t297)) + 2))) = true := bne_iff_ne.mpr c38
                exact absurd (Option.some.inj H) (by rw [HRT.out]; decide)
              rw [if_pos c38] at H
              have c38b0 : (t302 == (wrap64 ((wrap64 (40 * t297)) + 2))) = true := beq_iff_eq.mpr c38
              have c38b1 : (t302 != (wrap64 ((wrap64 (40 * t297)) + 2))) = false := bne_eq_false_iff_eq.mpr c38
              clear c38
              replace H := Option.bind_eq_some_iff.mp H
              obtain ⟨t303, A390, H⟩ := H
              replace H : (some (decide (t303 ≤ 128))) = some r := H
              have A39 := AM A390
              clear A390
              obtain rfl := Option.some.inj H
              have hcz40_0 : wr.cell? ⟨gb293, 0, none⟩ = some (.slice A0_0 l0_0.length c0_0) := (bC BK293.out 0).trans rfl
              have hcz40_1 : wr.cell? ⟨gb293, 1, none⟩ = some (.slice A0_1 l0_1.length c0_1) := (bC BK293.out 1).trans rfl
              have hcz40_2 : wr.cell? ⟨gb293, 2, none⟩ = some (.slice A0_2 l0_2.length c0_2) := (bC BK293.out 2).trans rfl
              have hcz40_3 : wr.cell? ⟨gb293, 3, none⟩ = some (.int .i64 a0_3) := (bC BK293.out 3).trans rfl
              have hcz40_4 : wr.cell? ⟨gb293, 4, none⟩ = some (.int .i64 a0_4) := (bC BK293.out 4).trans rfl
              have hfz40_0 := bF BK293.out 0
              have hfz40_1 := bF BK293.out 1
              have hfz40_2 := bF BK293.out 2
              have hfz40_3 := bF BK293.out 3
              have hfz40_4 := bF BK293.out 4
              go_wp2_with (first | (go_at_call 16; (with_reducible refine (keep_Window.calls _ _ l0_0 _ _ l0_1 _ _ l0_2 a0_3 a0_4 t302 _ ?side1 ?side2 ?side3 ?side4 ?side5 ?side6 A37.out).mono ?_); (case side1 => repeat (first | exact (cB HR0_0.out HB.out) | (with_reducible refine cA ?_ _) | (with_reducible refine cD ?_ _) | (with_reducible refine c1_ ?_))); (case side2 => exact HC0_0.out); (case side3 => repeat (first | exact (cB HR0_1.out HB.out) | (with_reducible refine cA ?_ _) | (with_reducible refine cD ?_ _) | (with_reducible refine c1_ ?_))); (case side4 => exact HC0_1.out); (case side5 => repeat (first | exact (cB HR0_2.out HB.out) | (with_reducible refine cA ?_ _) | (with_reducible refine cD ?_ _) | (with_reducible refine c1_ ?_))); (case side6 => exact HC0_2.out); rintro e w41 ⟨rfl, hb⟩; have n0_ := AM (kB (g := gb293) (o := .cells #[.slice A0_0 l0_0.length c0_0, .slice A0_1 l0_1.length c0_1, .slice A0_2 l0_2.length c0_2, .int .i64 a0_3, .int .i64 a0_4] 26 (0, 0)) (by (with_reducible repeat (first | refine kD ?_ _ | refine k1_ ?_ | refine kA ?_ _)); exact BK293.out) hb); have n1_ := AM (bT (by repeat (first | (with_reducible first | exact HB.out | apply bA | apply bD | apply b1 | refine bS ?_ GE293.out) | exact HB.out)) hb); clear BK293; clear HB; have BK293 := n0_; have HB := n1_; clear n0_ n1_; (try clear hb); (try clear hb2); (try clear hk); (try clear hi); have hcz42_0 : w41.cell? ⟨gb293, 0, none⟩ = some (.slice A0_0 l0_0.length c0_0) := (bC BK293.out 0).trans rfl; have hcz42_1 : w41.cell? ⟨gb293, 1, none⟩ = some (.slice A0_1 l0_1.length c0_1) := (bC BK293.out 1).trans rfl; have hcz42_2 : w41.cell? ⟨gb293, 2, none⟩ = some (.slice A0_2 l0_2.length c0_2) := (bC BK293.out 2).trans rfl; have hcz42_3 : w41.cell? ⟨gb293, 3, none⟩ = some (.int .i64 a0_3) := (bC BK293.out 3).trans rfl; have hcz42_4 : w41.cell? ⟨gb293, 4, none⟩ = some (.int .i64 a0_4) := (bC BK293.out 4).trans rfl; have hfz42_0 := bF BK293.out 0; have hfz42_1 := bF BK293.out 1; have hfz42_2 := bF BK293.out 2; have hfz42_3 := bF BK293.out 3; have hfz42_4 := bF BK293.out 4) | (go_at_call 15; (with_reducible refine (keep_Pieces.calls k3 _ _ l0_0 _ _ l0_1 _ _ l0_2 a0_3 a0_4 t303 _ ?side1 ?side2 ?side3 ?side4 ?side5 ?side6 A39.out).mono ?_); (case side1 => repeat (first | exact (cB HR0_0.out HB.out) | (with_reducible refine cA ?_ _) | (with_reducible refine cD ?_ _) | (with_reducible refine c1_ ?_))); (case side2 => exact HC0_0.out); (case side3 => repeat (first | exact (cB HR0_1.out HB.out) | (with_reducible refine cA ?_ _) | (with_reducible refine cD ?_ _) | (with_reducible refine c1_ ?_))); (case side4 => exact HC0_1.out); (case side5 => repeat (first | exact (cB HR0_2.out HB.out) | (with_reducible refine cA ?_ _) | (with_reducible refine cD ?_ _) | (with_reducible refine c1_ ?_))); (case side6 => exact HC0_2.out); rintro e w43 ⟨rfl, hb⟩; have n0_ := AM (kB (g := gb293) (o := .cells #[.slice A0_0 l0_0.length c0_0, .slice A0_1 l0_1.length c0_1, .slice A0_2 l0_2.length c0_2, .int .i64 a0_3, .int .i64 a0_4] 26 (0, 0)) (by (with_reducible repeat (first | refine kD ?_ _ | refine k1_ ?_ | refine kA ?_ _)); exact BK293.out) hb); have n1_ := AM (bT (by repeat (first | (with_reducible first | exact HB.out | apply bA | apply bD | apply b1 | refine bS ?_ GE293.out) | exact HB.out)) hb); clear BK293; clear HB; have BK293 := n0_; have HB := n1_; clear n0_ n1_; (try clear hb); (try clear hb2); (try clear hk); (try clear hi)))
              go_ret
              exact ⟨by first | rfl | (simp [errW_none, errW_some] <;> rfl) | (simp [*, errW_none, errW_some] <;> rfl), by repeat (first | (with_reducible first | exact HB.out | apply bA | apply bD | apply b1 | refine bS ?_ GE293.out) | exact HB.out)⟩
-- NOT PRINTED: function 29 (api_Contrib_29)

-- NOT PRINTED: function 30 (api_Kind_30)

-- NOT PRINTED: function 31 (api_Band_31)

-- NOT PRINTED: function 17 (table_Clone)

-- NOT PRINTED: function 18 (api_Contrib_18)

-- NOT PRINTED: function 19 (api_Band_19)

-- NOT PRINTED: function 6 (stipendlaw10_KeepOrder)

end Go.Proofs.Ytdllkibfikcfbaa.K
