import Derived.Test.YtjljhianehhlgaaDoorQ0
import Derived.Test.YtjljhianehhlgaaDoorQ1
import Derived.Test.YtjljhianehhlgaaDoorQ4
namespace Go.Proofs.YtjljhianehhlgaaDoor.K
open Go.RowKit Go.Proofs.YtjljhianehhlgaaDoorW.PrintWords Go.Proofs.YtjljhianehhlgaaDoorW.PrintLast Go.Proofs.YtjljhianehhlgaaDoorW.PrintMore
attribute [local go_sem] max2_int min2_int max_two min_two max_three min_three max_four min_four   -- for this text's walks alone
set_option linter.unusedVariables false
set_option linter.unusedSimpArgs false

/-! ### share_Employee: function 57 -/
def share_Employee.f (k : Nat) (l0 : List (S64)) : Option (Int × Int) := (share_Sides.f k l0).bind fun bt235 => (some (bt235.1, bt235.2.2))
set_option maxHeartbeats 8000000 in
set_option maxRecDepth 100000 in
theorem share_Employee.calls (k : Nat) (A0 : Option Addr) (c0 : Nat) (l0 : List (S64)) (r1 : Int) (r2 : Int) (w : World) (hr0 : Kd.C k64 w A0 l0.length l0) (hc0 : l0.length ≤ c0) (h : share_Employee.f k l0 = some (r1, r2)) :
    Calls Tryd.prog 57 #[.slice A0 l0.length c0] w fun e w' => e = .returned (.tuple #[.int .i64 r1, .int .i64 r2]) ∧ Below w.heap.size w w' := by
  have hu64 := Tryd.underlying64
  have HR0 := AM hr0
  have HC0 := AM hc0
  clear hr0 hc0
  have HB := AM (Below.refl w.heap.size w)
  have H : ((share_Sides.f k l0).bind fun bt235 => (some (bt235.1, bt235.2.2))) = some (r1, r2) := h
  clear h
  replace H := Option.bind_eq_some_iff.mp H
  obtain ⟨⟨t235, t236, t237⟩, A20, H⟩ := H
  replace H : (some (t235, t237)) = some (r1, r2) := H
  have A2 := AM A20
  clear A20
  simp only [Option.some.injEq, Prod.mk.injEq] at H
  obtain ⟨rfl, rfl⟩ := H
  go_enter Tryd.func57, Tryd.ntmps57
  go_wp2_with (first | ((with_reducible refine gC (f := 53) rfl ?_); refine gL (some 8) rfl rfl Tryd.func53 (by kernel_rfl) rfl #[.slice A0 l0.length c0] rfl (by (try simp only [List.map_toArray, List.map_cons, List.map_nil]); first | done | rfl | (simp only [List.length_drop, List.length_take]; rfl)) ?_; (with_reducible refine (share_Sides.calls k _ _ l0 t235 t236 t237 _ ?side1 ?side2 A2.out).mono ?_); (case side1 => repeat (first | exact HR0.out | (with_reducible refine cA ?_ _) | (with_reducible refine cD ?_ _) | (with_reducible refine c1_ ?_))); (case side2 => exact HC0.out); rintro e w3 ⟨rfl, hb⟩; refine ⟨_, rfl, ?_⟩; have n0_ := AM (bT bQ hb); clear HB; have HB := n0_; clear n0_; (try clear hb); (try clear hb2); (try clear hk); (try clear hi)) | ((with_reducible refine gD (N := 4) rfl ?_); refine bE ?hg (N := 4) ?hd (cs := #[.int .i64 0, .int .i64 0]) (t := 64) ?hr ?_; (case hd => rfl); (case hg => rfl); (case hr => first | (go_simp; done) | (go_simp; rfl)); intro gb238 hg w4 hbox hb; have n0_ := AM (bT bQ hb); have n1_ := AM (hbox); have n2_ := AM ((by rw [hg]; exact (bZ bQ) : w.heap.size ≤ gb238)); have n3_ := AM ((by rw [hg]; exact (bZ bQ) : w.heap.size ≤ gb238)); clear HB; have HB := n0_; have BK238 := n1_; have GW238 := n2_; have GE238 := n3_; clear n0_ n1_ n2_ n3_; clear hb hbox hg; obtain ⟨_, _, _, _⟩ := bX2 BK238.out))
  go_ret2
  exact ⟨by first | rfl | (simp [errW_none, errW_some] <;> rfl) | (simp [*, errW_none, errW_some] <;> rfl), by repeat (first | (with_reducible first | exact HB.out | apply bA | apply bD | apply b1 | refine bS ?_ GE238.out) | exact HB.out)⟩

/-! ### base_Right: function 58 -/
def base_Right.f (k : Nat) (a0_0 : Int) (a0_1 : Int) (a0_2 : Int) : Option (Bool) := (money_Right.f k (([a0_0, a0_1, a0_2] : List Int))).bind fun t243 => (some t243)
set_option maxHeartbeats 8000000 in
set_option maxRecDepth 100000 in
theorem base_Right.calls (k : Nat) (a0_0 : Int) (a0_1 : Int) (a0_2 : Int) (r : Bool) (w : World) (h : base_Right.f k a0_0 a0_1 a0_2 = some r) :
    Calls Tryd.prog 58 #[.agg #[.int .i64 a0_0, .int .i64 a0_1, .int .i64 a0_2]] w fun e w' => e = .returned (.bool r) ∧ Below w.heap.size w w' := by
  have hu53 := Tryd.underlying53
  have HB := AM (Below.refl w.heap.size w)
  have H : ((money_Right.f k (([a0_0, a0_1, a0_2] : List Int))).bind fun t243 => (some t243)) = some r := h
  clear h
  obtain ⟨y240, hy240⟩ : ∃ y_ : List Int, y_ = (([a0_0, a0_1, a0_2] : List Int)) := ⟨_, rfl⟩
  replace H : ((money_Right.f k y240).bind fun t243 => (some t243)) = some r := by first | (rw [hy240]; with_reducible exact H) | (have H2_ := (Option.bind_some _ _).symm.trans H; rw [hy240]; with_reducible exact H2_) | (have H2_ := (Option.bind_some _ _).symm.trans H; with_reducible exact H2_) | with_reducible exact H | (rw [hy240]; exact H) | exact H
  have Ny240 := AM hy240
  clear hy240
  replace H := Option.bind_eq_some_iff.mp H
  obtain ⟨t243, A20, H⟩ := H
  replace H : (some t243) = some r := H
  have A2 := AM A20
  clear A20
  obtain rfl := Option.some.inj H
  go_enter Tryd.func58, Tryd.ntmps58
  go_wp2_with (first | ((with_reducible refine gD (N := 1) rfl ?_); refine bE ?hg (N := 1) ?hd (cs := #[.int .i64 a0_0, .int .i64 a0_1, .int .i64 a0_2]) (t := 53) ?hr ?_; (case hd => rfl); (case hg => rfl); (case hr => first | (go_simp; done) | (go_simp; rfl)); intro gb239 hg w3 hbox hb; have n0_ := AM (bT bQ hb); have n1_ := AM (hbox); have n2_ := AM ((by rw [hg]; exact (bZ bQ) : w.heap.size ≤ gb239)); have n3_ := AM ((by rw [hg]; exact (bZ bQ) : w.heap.size ≤ gb239)); clear HB; have HB := n0_; have BK239 := n1_; have GW239 := n2_; have GE239 := n3_; clear n0_ n1_ n2_ n3_; clear hb hbox hg; obtain ⟨_, _, _, _, _, _⟩ := bX3 BK239.out) | ((with_reducible refine gD (N := 9) rfl ?_); refine Kd.R_lit (Kd.int .i64) _ 2 ?hg (N := 9) ?hd (xs := ([a0_0, a0_1, a0_2] : List Int)) (inner := [.int .i64 a0_0, .int .i64 a0_1, .int .i64 a0_2]) (ok := fun _ => True) (okp := fun _ => True) ?hr ?hp (fun _ hk => hk) trivial (Below.refl _ _) (Nat.le_refl _) (by simp) ?_; (case hd => rfl); (case hg => rfl); (case hr => first | (go_simp; done) | (go_simp; rfl)); (case hp => exact (Reps.one (show Kd.M (Kd.int .i64) _ _ _ a0_0 [.int .i64 a0_0] from rfl) (Reps.one (show Kd.M (Kd.int .i64) _ _ _ a0_1 [.int .i64 a0_1] from rfl) (Reps.one (show Kd.M (Kd.int .i64) _ _ _ a0_2 [.int .i64 a0_2] from rfl) (Reps.none _ _))))); intro v241 w5 ho6 hb hg_ hnew_; clear hg_ hnew_; (first | rw [← Ny240.out] at ho6 | (simp only [Int.reduceToNat] at ho6; rw [← Ny240.out] at ho6)); have n0_ := AM (Kd.R_lower ho6 (bZ bQ)); have n1_ := AM (kB (g := gb239) (o := .cells #[.int .i64 a0_0, .int .i64 a0_1, .int .i64 a0_2] 53 (0, 0)) (kW BK239) hb); have n2_ := AM (bT bQ hb); clear BK239; clear HB; have HO242 := n0_; have BK239 := n1_; have HB := n2_; clear n0_ n1_ n2_; clear hb ho6; obtain ⟨Ao7, co7, eo7⟩ := Kd.R_slice HO242.out; subst eo7) | ((with_reducible refine gC (f := 34) rfl ?_); refine gL (some 10) rfl rfl Tryd.func34 (by kernel_rfl) rfl #[.slice Ao7 y240.length co7] rfl (by (try simp only [List.map_toArray, List.map_cons, List.map_nil]); first | done | rfl | (simp only [List.length_drop, List.length_take]; rfl)) ?_; (with_reducible refine (money_Right.calls k _ _ y240 t243 _ ?side1 ?side2 A2.out).mono ?_); (case side1 => repeat (first | exact (Kd.R_reads' HO242.out).2.2 | (with_reducible refine cA ?_ _) | (with_reducible refine cD ?_ _) | (with_reducible refine c1_ ?_))); (case side2 => exact (Kd.R_reads' HO242.out).2.1); rintro e w' ⟨rfl, ⟨nd, rfl⟩⟩; refine ⟨_, rfl, ?_⟩))
  go_ret
  exact ⟨by first | rfl | (simp [errW_none, errW_some] <;> rfl) | (simp [*, errW_none, errW_some] <;> rfl), by repeat (first | (with_reducible first | exact HB.out | apply bA | apply bD | apply b1 | refine bS ?_ GE239.out) | exact HB.out)⟩

/-! ### year_Check: function 25 -/
mutual
def year_Check.j0 : Nat → Int → Bool → Int → Int → Int → Int → Int → Int → List (S64) → Int → List (S70) → Int → Option (Int)
  | 0, _, _, _, _, _, _, _, _, _, _, _, _ => none
  | k + 1, x1, x15, x245000, x245001, x245002, x245003, x245004, x245005, x245006, x245007, x245008, x245009 => if x15 = true then (some 1) else (if (x245006.length : Int) = x1 then ((share_Employee.f k x245006).bind fun bt245 => (if bt245.2 = 0 then ((base_Right.f k x245001 x245002 x245003).bind fun t247 => (if t247 = true then ((money_Right.f k (([x245004, x245005, x245007, x245009] : List Int))).bind fun t251 => (year_Check.j1 k bt245.1 (!t251) x245000 x245001 x245002 x245003 x245004 x245005 x245006 x245007 x245008 x245009)) else (year_Check.j1 k bt245.1 true x245000 x245001 x245002 x245003 x245004 x245005 x245006 x245007 x245008 x245009))) else (some bt245.2))) else (some 3))
def year_Check.j1 : Nat → Int → Bool → Int → Int → Int → Int → Int → Int → List (S64) → Int → List (S70) → Int → Option (Int)
  | 0, _, _, _, _, _, _, _, _, _, _, _, _ => none
  | k + 1, x5, x46, x245000, x245001, x245002, x245003, x245004, x245005, x245006, x245007, x245008, x245009 => if x46 = true then (some 10) else ((attach_Sum.f k x245008).bind fun bt252 => (if bt252.2 = 0 then (if (wrap64 ((wrap64 (x245001 - x245004)) - x5)) = x245007 then (if (wrap64 (x245007 - bt252.1)) = x245009 then (some 0) else (some 5)) else (some 5)) else (some bt252.2)))
end
def year_Check.f (k : Nat) (a0_0 : Int) (a0_1 : Int) (a0_2 : Int) (a0_3 : Int) (a0_4 : Int) (a0_5 : Int) (l0_6 : List (S64)) (a0_7 : Int) (l0_8 : List (S70)) (a0_9 : Int) (a1 : Int) : Option (Int) := if a0_0 < 1 then (year_Check.j0 k a1 true a0_0 a0_1 a0_2 a0_3 a0_4 a0_5 l0_6 a0_7 l0_8 a0_9) else (year_Check.j0 k a1 (decide (a0_0 > 53)) a0_0 a0_1 a0_2 a0_3 a0_4 a0_5 l0_6 a0_7 l0_8 a0_9)
set_option maxHeartbeats 8000000 in
set_option maxRecDepth 100000 in
theorem year_Check.calls (k : Nat) (a0_0 : Int) (a0_1 : Int) (a0_2 : Int) (a0_3 : Int) (a0_4 : Int) (a0_5 : Int) (A0_6 : Option Addr) (c0_6 : Nat) (l0_6 : List (S64)) (a0_7 : Int) (A0_8 : Option Addr) (c0_8 : Nat) (l0_8 : List (S70)) (a0_9 : Int) (a1 : Int) (r : Int) (w : World) (hr0_6 : Kd.C k64 w A0_6 l0_6.length l0_6) (hc0_6 : l0_6.length ≤ c0_6) (hr0_8 : Kd.C k70 w A0_8 l0_8.length l0_8) (hc0_8 : l0_8.length ≤ c0_8) (h : year_Check.f k a0_0 a0_1 a0_2 a0_3 a0_4 a0_5 l0_6 a0_7 l0_8 a0_9 a1 = some r) :
    Calls Tryd.prog 25 #[.agg #[.int .i64 a0_0, .int .i64 a0_1, .int .i64 a0_2, .int .i64 a0_3, .int .i64 a0_4, .int .i64 a0_5, .slice A0_6 l0_6.length c0_6, .int .i64 a0_7, .slice A0_8 l0_8.length c0_8, .int .i64 a0_9], .int .i64 a1] w fun e w' => e = .returned (.int .i64 r) ∧ Below w.heap.size w w' := by
  have hu57 := Tryd.underlying57
  have hu53 := Tryd.underlying53
  have HR0_6 := AM hr0_6
  have HC0_6 := AM hc0_6
  clear hr0_6 hc0_6
  have HR0_8 := AM hr0_8
  have HC0_8 := AM hc0_8
  clear hr0_8 hc0_8
  have HB := AM (Below.refl w.heap.size w)
  have H : (if a0_0 < 1 then (year_Check.j0 k a1 true a0_0 a0_1 a0_2 a0_3 a0_4 a0_5 l0_6 a0_7 l0_8 a0_9) else (year_Check.j0 k a1 (decide (a0_0 > 53)) a0_0 a0_1 a0_2 a0_3 a0_4 a0_5 l0_6 a0_7 l0_8 a0_9)) = some r := h
  clear h
  have HC3 := AM H
  clear H
  go_enter Tryd.func25, Tryd.ntmps25
  go_upto_region 1 with (first | ((with_reducible refine gD (N := 2) rfl ?_); (try (refine gG (by rfl) ?_; dsimp only)); refine bE ?hg (N := 2) ?hd (cs := #[.int .i64 a0_0, .int .i64 a0_1, .int .i64 a0_2, .int .i64 a0_3, .int .i64 a0_4, .int .i64 a0_5, .slice A0_6 l0_6.length c0_6, .int .i64 a0_7, .slice A0_8 l0_8.length c0_8, .int .i64 a0_9]) (t := 57) ?hr ?_; (case hd => rfl); (case hg => rfl); (case hr => first | (go_simp; done) | (go_simp; rfl)); intro gb244 hg w4 hbox hb; have n0_ := AM (bT bQ hb); have n1_ := AM (hbox); have n2_ := AM ((by rw [hg]; exact (bZ bQ) : w.heap.size ≤ gb244)); have n3_ := AM ((by rw [hg]; exact (bZ bQ) : w.heap.size ≤ gb244)); clear HB; have HB := n0_; have BK244 := n1_; have GW244 := n2_; have GE244 := n3_; clear n0_ n1_ n2_ n3_; clear hb hbox hg))
  (try simp only [Act.put, List.setIfInBounds_toArray, List.set_cons_zero, List.set_cons_succ])
  go_cut [15] (fun v15 wc => ∃ (kq : Nat) (x15_2 : Bool), v15 = .bool x15_2 ∧ Aside0 (year_Check.j0 kq a1 x15_2 a0_0 a0_1 a0_2 a0_3 a0_4 a0_5 l0_6 a0_7 l0_8 a0_9 = some r) ∧ Aside0 (kq ≤ k) ∧ Aside0 (wc.heap[gb244]? = some (.cells #[.int .i64 a0_0, .int .i64 a0_1, .int .i64 a0_2, .int .i64 a0_3, .int .i64 a0_4, .int .i64 a0_5, (.slice A0_6 l0_6.length c0_6), .int .i64 a0_7, (.slice A0_8 l0_8.length c0_8), .int .i64 a0_9] 57 (0, 0))) ∧ Aside0 (Below w.heap.size w wc))
  case first =>
    have H := HC3.out
    clear HC3
    by_cases c5 : a0_0 < 1
    · rw [if_pos c5] at H
      have c5b0 := decide_eq_true c5
      clear c5
      (first | rw [c5b0] | (simp only [i64_w, i32_w]; rw [c5b0]) | skip)
      have H' := AM H
      clear H
      have hcz6_0 : w4.cell? ⟨gb244, 0, none⟩ = some (.int .i64 a0_0) := (bC BK244.out 0).trans rfl
      have hcz6_1 : w4.cell? ⟨gb244, 1, none⟩ = some (.int .i64 a0_1) := (bC BK244.out 1).trans rfl
      have hcz6_2 : w4.cell? ⟨gb244, 2, none⟩ = some (.int .i64 a0_2) := (bC BK244.out 2).trans rfl
      have hcz6_3 : w4.cell? ⟨gb244, 3, none⟩ = some (.int .i64 a0_3) := (bC BK244.out 3).trans rfl
      have hcz6_4 : w4.cell? ⟨gb244, 4, none⟩ = some (.int .i64 a0_4) := (bC BK244.out 4).trans rfl
      have hcz6_5 : w4.cell? ⟨gb244, 5, none⟩ = some (.int .i64 a0_5) := (bC BK244.out 5).trans rfl
      have hcz6_6 : w4.cell? ⟨gb244, 6, none⟩ = some (.slice A0_6 l0_6.length c0_6) := (bC BK244.out 6).trans rfl
      have hcz6_7 : w4.cell? ⟨gb244, 7, none⟩ = some (.int .i64 a0_7) := (bC BK244.out 7).trans rfl
      have hcz6_8 : w4.cell? ⟨gb244, 8, none⟩ = some (.slice A0_8 l0_8.length c0_8) := (bC BK244.out 8).trans rfl
      have hcz6_9 : w4.cell? ⟨gb244, 9, none⟩ = some (.int .i64 a0_9) := (bC BK244.out 9).trans rfl
      have hfz6_0 := bF BK244.out 0
      have hfz6_1 := bF BK244.out 1
      have hfz6_2 := bF BK244.out 2
      have hfz6_3 := bF BK244.out 3
      have hfz6_4 := bF BK244.out 4
      have hfz6_5 := bF BK244.out 5
      have hfz6_6 := bF BK244.out 6
      have hfz6_7 := bF BK244.out 7
      have hfz6_8 := bF BK244.out 8
      have hfz6_9 := bF BK244.out 9
      go_wp2
      go_meet
      case rel => exact ⟨_, (true), (by first | rfl | (simp; done) | (simp [*]; done)), H', ⟨by first | omega | exact Nat.le_refl _⟩, ⟨by (with_reducible repeat (first | refine kD ?_ _ | refine k1_ ?_ | refine kA ?_ _)); exact BK244.out⟩, ⟨by repeat (first | (with_reducible first | exact HB.out | apply bA | apply bD | apply b1 | refine bS ?_ GE244.out) | exact HB.out)⟩⟩
    rw [if_neg c5] at H
    have c5b0 := decide_eq_false c5
    clear c5
    (first | rw [c5b0] | (simp only [i64_w, i32_w]; rw [c5b0]) | skip)
    have H' := AM H
    clear H
    have hcz7_0 : w4.cell? ⟨gb244, 0, none⟩ = some (.int .i64 a0_0) := (bC BK244.out 0).trans rfl
    have hcz7_1 : w4.cell? ⟨gb244, 1, none⟩ = some (.int .i64 a0_1) := (bC BK244.out 1).trans rfl
    have hcz7_2 : w4.cell? ⟨gb244, 2, none⟩ = some (.int .i64 a0_2) := (bC BK244.out 2).trans rfl
    have hcz7_3 : w4.cell? ⟨gb244, 3, none⟩ = some (.int .i64 a0_3) := (bC BK244.out 3).trans rfl
    have hcz7_4 : w4.cell? ⟨gb244, 4, none⟩ = some (.int .i64 a0_4) := (bC BK244.out 4).trans rfl
    have hcz7_5 : w4.cell? ⟨gb244, 5, none⟩ = some (.int .i64 a0_5) := (bC BK244.out 5).trans rfl
    have hcz7_6 : w4.cell? ⟨gb244, 6, none⟩ = some (.slice A0_6 l0_6.length c0_6) := (bC BK244.out 6).trans rfl
    have hcz7_7 : w4.cell? ⟨gb244, 7, none⟩ = some (.int .i64 a0_7) := (bC BK244.out 7).trans rfl
    have hcz7_8 : w4.cell? ⟨gb244, 8, none⟩ = some (.slice A0_8 l0_8.length c0_8) := (bC BK244.out 8).trans rfl
    have hcz7_9 : w4.cell? ⟨gb244, 9, none⟩ = some (.int .i64 a0_9) := (bC BK244.out 9).trans rfl
    have hfz7_0 := bF BK244.out 0
    have hfz7_1 := bF BK244.out 1
    have hfz7_2 := bF BK244.out 2
    have hfz7_3 := bF BK244.out 3
    have hfz7_4 := bF BK244.out 4
    have hfz7_5 := bF BK244.out 5
    have hfz7_6 := bF BK244.out 6
    have hfz7_7 := bF BK244.out 7
    have hfz7_8 := bF BK244.out 8
    have hfz7_9 := bF BK244.out 9
    go_wp2
    go_meet
    case rel => exact ⟨_, (decide (a0_0 > 53)), (by first | rfl | (simp; done) | (simp [*]; done)), H', ⟨by first | omega | exact Nat.le_refl _⟩, ⟨by (with_reducible repeat (first | refine kD ?_ _ | refine k1_ ?_ | refine kA ?_ _)); exact BK244.out⟩, ⟨by repeat (first | (with_reducible first | exact HB.out | apply bA | apply bD | apply b1 | refine bS ?_ GE244.out) | exact HB.out)⟩⟩
  case rest =>
    clear HC3
    obtain ⟨kq, x15_2, rfl, HA, HJ2, BK244, HB⟩ := hcut
    cases kq with
    | zero => exact absurd HA.out (by simp [year_Check.j0])
    | succ kj2 =>
      have H := HA.out
      clear HA
      simp only [year_Check.j0] at H
      by_cases c8 : x15_2 = true
      · subst c8
        have H1 : (some 1) = some r := by rw [if_pos rfl] at H; exact H
        clear H
        have H := H1
        clear H1
        obtain rfl := Option.some.inj H
        go_wp2
        go_ret
        exact ⟨by first | rfl | (simp [errW_none, errW_some] <;> rfl) | (simp [*, errW_none, errW_some] <;> rfl), by repeat (first | (with_reducible first | exact HB.out | apply bA | apply bD | apply b1 | refine bS ?_ GE244.out) | exact HB.out)⟩
      replace c8 := Bool.eq_false_iff.mpr c8
      subst c8
      have H1 : (if (l0_6.length : Int) = a1 then ((share_Employee.f kj2 l0_6).bind fun bt245 => (if bt245.2 = 0 then ((base_Right.f kj2 a0_1 a0_2 a0_3).bind fun t247 => (if t247 = true then ((money_Right.f kj2 (([a0_4, a0_5, a0_7, a0_9] : List Int))).bind fun t251 => (year_Check.j1 kj2 bt245.1 (!t251) a0_0 a0_1 a0_2 a0_3 a0_4 a0_5 l0_6 a0_7 l0_8 a0_9)) else (year_Check.j1 kj2 bt245.1 true a0_0 a0_1 a0_2 a0_3 a0_4 a0_5 l0_6 a0_7 l0_8 a0_9))) else (some bt245.2))) else (some 3)) = some r := by rw [if_neg (show ¬ (false = true) by decide)] at H; exact H
      clear H
      have H := H1
      clear H1
      by_cases c9 : (l0_6.length : Int) = a1
      rotate_left
      · rw [if_neg c9] at H
        have c9b0 : ((l0_6.length : Int) == a1) = false := beq_eq_false_iff_ne.mpr c9
        have c9b1 : ((l0_6.length : Int) != a1) = true := bne_iff_ne.mpr c9
        obtain rfl := Option.some.inj H
        have hcz44_0 : wc.cell? ⟨gb244, 0, none⟩ = some (.int .i64 a0_0) := (bC BK244.out 0).trans rfl
        have hcz44_1 : wc.cell? ⟨gb244, 1, none⟩ = some (.int .i64 a0_1) := (bC BK244.out 1).trans rfl
        have hcz44_2 : wc.cell? ⟨gb244, 2, none⟩ = some (.int .i64 a0_2) := (bC BK244.out 2).trans rfl
        have hcz44_3 : wc.cell? ⟨gb244, 3, none⟩ = some (.int .i64 a0_3) := (bC BK244.out 3).trans rfl
        have hcz44_4 : wc.cell? ⟨gb244, 4, none⟩ = some (.int .i64 a0_4) := (bC BK244.out 4).trans rfl
        have hcz44_5 : wc.cell? ⟨gb244, 5, none⟩ = some (.int .i64 a0_5) := (bC BK244.out 5).trans rfl
        have hcz44_6 : wc.cell? ⟨gb244, 6, none⟩ = some (.slice A0_6 l0_6.length c0_6) := (bC BK244.out 6).trans rfl
        have hcz44_7 : wc.cell? ⟨gb244, 7, none⟩ = some (.int .i64 a0_7) := (bC BK244.out 7).trans rfl
        have hcz44_8 : wc.cell? ⟨gb244, 8, none⟩ = some (.slice A0_8 l0_8.length c0_8) := (bC BK244.out 8).trans rfl
        have hcz44_9 : wc.cell? ⟨gb244, 9, none⟩ = some (.int .i64 a0_9) := (bC BK244.out 9).trans rfl
        have hfz44_0 := bF BK244.out 0
        have hfz44_1 := bF BK244.out 1
        have hfz44_2 := bF BK244.out 2
        have hfz44_3 := bF BK244.out 3
        have hfz44_4 := bF BK244.out 4
        have hfz44_5 := bF BK244.out 5
        have hfz44_6 := bF BK244.out 6
        have hfz44_7 := bF BK244.out 7
        have hfz44_8 := bF BK244.out 8
        have hfz44_9 := bF BK244.out 9
        go_wp2
        go_ret
        exact ⟨by first | rfl | (simp [errW_none, errW_some] <;> rfl) | (simp [*, errW_none, errW_some] <;> rfl), by repeat (first | (with_reducible first | exact HB.out | apply bA | apply bD | apply b1 | refine bS ?_ GE244.out) | exact HB.out)⟩

      rw [if_pos c9] at H
      have c9b0 : ((l0_6.length : Int) == a1) = true := beq_iff_eq.mpr c9
      have c9b1 : ((l0_6.length : Int) != a1) = false := bne_eq_false_iff_eq.mpr c9
      clear c9
      replace H := Option.bind_eq_some_iff.mp H
      obtain ⟨⟨t245, t246⟩, A100, H⟩ := H
      replace H : (if t246 = 0 then ((base_Right.f kj2 a0_1 a0_2 a0_3).bind fun t247 => (if t247 = true then ((money_Right.f kj2 (([a0_4, a0_5, a0_7, a0_9] : List Int))).bind fun t251 => (year_Check.j1 kj2 t245 (!t251) a0_0 a0_1 a0_2 a0_3 a0_4 a0_5 l0_6 a0_7 l0_8 a0_9)) else (year_Check.j1 kj2 t245 true a0_0 a0_1 a0_2 a0_3 a0_4 a0_5 l0_6 a0_7 l0_8 a0_9))) else (some t246)) = some r := H
      have A10 := AM A100
      clear A100
      by_cases c11 : t246 = 0
      rotate_left
      · rw [if_neg c11] at H
        have c11b0 : (t246 == 0) = false := beq_eq_false_iff_ne.mpr c11
        have c11b1 : (t246 != 0) = true := bne_iff_ne.mpr c11
        obtain rfl := Option.some.inj H
        have hcz42_0 : wc.cell? ⟨gb244, 0, none⟩ = some (.int .i64 a0_0) := (bC BK244.out 0).trans rfl
        have hcz42_1 : wc.cell? ⟨gb244, 1, none⟩ = some (.int .i64 a0_1) := (bC BK244.out 1).trans rfl
        have hcz42_2 : wc.cell? ⟨gb244, 2, none⟩ = some (.int .i64 a0_2) := (bC BK244.out 2).trans rfl
        have hcz42_3 : wc.cell? ⟨gb244, 3, none⟩ = some (.int .i64 a0_3) := (bC BK244.out 3).trans rfl
        have hcz42_4 : wc.cell? ⟨gb244, 4, none⟩ = some (.int .i64 a0_4) := (bC BK244.out 4).trans rfl
        have hcz42_5 : wc.cell? ⟨gb244, 5, none⟩ = some (.int .i64 a0_5) := (bC BK244.out 5).trans rfl
        have hcz42_6 : wc.cell? ⟨gb244, 6, none⟩ = some (.slice A0_6 l0_6.length c0_6) := (bC BK244.out 6).trans rfl
        have hcz42_7 : wc.cell? ⟨gb244, 7, none⟩ = some (.int .i64 a0_7) := (bC BK244.out 7).trans rfl
        have hcz42_8 : wc.cell? ⟨gb244, 8, none⟩ = some (.slice A0_8 l0_8.length c0_8) := (bC BK244.out 8).trans rfl
        have hcz42_9 : wc.cell? ⟨gb244, 9, none⟩ = some (.int .i64 a0_9) := (bC BK244.out 9).trans rfl
        have hfz42_0 := bF BK244.out 0
        have hfz42_1 := bF BK244.out 1
        have hfz42_2 := bF BK244.out 2
        have hfz42_3 := bF BK244.out 3
        have hfz42_4 := bF BK244.out 4
        have hfz42_5 := bF BK244.out 5
        have hfz42_6 := bF BK244.out 6
        have hfz42_7 := bF BK244.out 7
        have hfz42_8 := bF BK244.out 8
        have hfz42_9 := bF BK244.out 9
        go_wp2_with (first | ((with_reducible refine gC (f := 57) rfl ?_); refine gL (some 24) rfl rfl Tryd.func57 (by kernel_rfl) rfl #[.slice A0_6 l0_6.length c0_6] rfl (by (try simp only [List.map_toArray, List.map_cons, List.map_nil]); first | done | rfl | (simp only [List.length_drop, List.length_take]; rfl)) ?_; (with_reducible refine (share_Employee.calls kj2 _ _ l0_6 t245 t246 _ ?side1 ?side2 A10.out).mono ?_); (case side1 => exact cQ HR0_6 HB); (case side2 => exact HC0_6.out); rintro e w43 ⟨rfl, hb⟩; refine ⟨_, rfl, ?_⟩; have n0_ := AM (kB (g := gb244) (o := .cells #[.int .i64 a0_0, .int .i64 a0_1, .int .i64 a0_2, .int .i64 a0_3, .int .i64 a0_4, .int .i64 a0_5, .slice A0_6 l0_6.length c0_6, .int .i64 a0_7, .slice A0_8 l0_8.length c0_8, .int .i64 a0_9] 57 (0, 0)) (kW BK244) hb); have n1_ := AM (bT bQ hb); clear BK244; clear HB; have BK244 := n0_; have HB := n1_; clear n0_ n1_; (try clear hb); (try clear hb2); (try clear hk); (try clear hi)))
        go_ret
        exact ⟨by first | rfl | (simp [errW_none, errW_some] <;> rfl) | (simp [*, errW_none, errW_some] <;> rfl), by repeat (first | (with_reducible first | exact HB.out | apply bA | apply bD | apply b1 | refine bS ?_ GE244.out) | exact HB.out)⟩
      rw [if_pos c11] at H
      have c11b0 : (t246 == 0) = true := beq_iff_eq.mpr c11
      have c11b1 : (t246 != 0) = false := bne_eq_false_iff_eq.mpr c11
      clear c11
      have HC12 := AM H
      clear H
      have hcz13_0 : wc.cell? ⟨gb244, 0, none⟩ = some (.int .i64 a0_0) := (bC BK244.out 0).trans rfl
      have hcz13_1 : wc.cell? ⟨gb244, 1, none⟩ = some (.int .i64 a0_1) := (bC BK244.out 1).trans rfl
      have hcz13_2 : wc.cell? ⟨gb244, 2, none⟩ = some (.int .i64 a0_2) := (bC BK244.out 2).trans rfl
      have hcz13_3 : wc.cell? ⟨gb244, 3, none⟩ = some (.int .i64 a0_3) := (bC BK244.out 3).trans rfl
      have hcz13_4 : wc.cell? ⟨gb244, 4, none⟩ = some (.int .i64 a0_4) := (bC BK244.out 4).trans rfl
      have hcz13_5 : wc.cell? ⟨gb244, 5, none⟩ = some (.int .i64 a0_5) := (bC BK244.out 5).trans rfl
      have hcz13_6 : wc.cell? ⟨gb244, 6, none⟩ = some (.slice A0_6 l0_6.length c0_6) := (bC BK244.out 6).trans rfl
      have hcz13_7 : wc.cell? ⟨gb244, 7, none⟩ = some (.int .i64 a0_7) := (bC BK244.out 7).trans rfl
      have hcz13_8 : wc.cell? ⟨gb244, 8, none⟩ = some (.slice A0_8 l0_8.length c0_8) := (bC BK244.out 8).trans rfl
      have hcz13_9 : wc.cell? ⟨gb244, 9, none⟩ = some (.int .i64 a0_9) := (bC BK244.out 9).trans rfl
      have hfz13_0 := bF BK244.out 0
      have hfz13_1 := bF BK244.out 1
      have hfz13_2 := bF BK244.out 2
      have hfz13_3 := bF BK244.out 3
      have hfz13_4 := bF BK244.out 4
      have hfz13_5 := bF BK244.out 5
      have hfz13_6 := bF BK244.out 6
      have hfz13_7 := bF BK244.out 7
      have hfz13_8 := bF BK244.out 8
      have hfz13_9 := bF BK244.out 9
      go_upto_region 8 with (first | ((with_reducible refine gC (f := 57) rfl ?_); refine gL (some 24) rfl rfl Tryd.func57 (by kernel_rfl) rfl #[.slice A0_6 l0_6.length c0_6] rfl (by (try simp only [List.map_toArray, List.map_cons, List.map_nil]); first | done | rfl | (simp only [List.length_drop, List.length_take]; rfl)) ?_; (with_reducible refine (share_Employee.calls kj2 _ _ l0_6 t245 t246 _ ?side1 ?side2 A10.out).mono ?_); (case side1 => exact cQ HR0_6 HB); (case side2 => exact HC0_6.out); rintro e w14 ⟨rfl, hb⟩; refine ⟨_, rfl, ?_⟩; have n0_ := AM (kB (g := gb244) (o := .cells #[.int .i64 a0_0, .int .i64 a0_1, .int .i64 a0_2, .int .i64 a0_3, .int .i64 a0_4, .int .i64 a0_5, .slice A0_6 l0_6.length c0_6, .int .i64 a0_7, .slice A0_8 l0_8.length c0_8, .int .i64 a0_9] 57 (0, 0)) (kW BK244) hb); have n1_ := AM (bT bQ hb); clear BK244; clear HB; have BK244 := n0_; have HB := n1_; clear n0_ n1_; (try clear hb); (try clear hb2); (try clear hk); (try clear hi)))
      (try simp only [Act.put, List.setIfInBounds_toArray, List.set_cons_zero, List.set_cons_succ])
      go_cut [46] (fun v46 wc => ∃ (kq : Nat) (x46_11 : Bool), v46 = .bool x46_11 ∧ Aside0 (year_Check.j1 kq t245 x46_11 a0_0 a0_1 a0_2 a0_3 a0_4 a0_5 l0_6 a0_7 l0_8 a0_9 = some r) ∧ Aside0 (kq ≤ kj2) ∧ Aside0 (wc.heap[gb244]? = some (.cells #[.int .i64 a0_0, .int .i64 a0_1, .int .i64 a0_2, .int .i64 a0_3, .int .i64 a0_4, .int .i64 a0_5, (.slice A0_6 l0_6.length c0_6), .int .i64 a0_7, (.slice A0_8 l0_8.length c0_8), .int .i64 a0_9] 57 (0, 0))) ∧ Aside0 (Below w.heap.size w wc))
      case first =>
        have H := HC12.out
        clear HC12
        replace H := Option.bind_eq_some_iff.mp H
        obtain ⟨t247, A150, H⟩ := H
        replace H : (if t247 = true then ((money_Right.f kj2 (([a0_4, a0_5, a0_7, a0_9] : List Int))).bind fun t251 => (year_Check.j1 kj2 t245 (!t251) a0_0 a0_1 a0_2 a0_3 a0_4 a0_5 l0_6 a0_7 l0_8 a0_9)) else (year_Check.j1 kj2 t245 true a0_0 a0_1 a0_2 a0_3 a0_4 a0_5 l0_6 a0_7 l0_8 a0_9)) = some r := H
        have A15 := AM A150
        clear A150
        by_cases c16 : t247 = true
        rotate_left
        · replace c16 := Bool.eq_false_iff.mpr c16
          subst c16
          have H1 : (year_Check.j1 kj2 t245 true a0_0 a0_1 a0_2 a0_3 a0_4 a0_5 l0_6 a0_7 l0_8 a0_9) = some r := by rw [if_neg (show ¬ (false = true) by decide)] at H; exact H
          clear H
          have H := H1
          clear H1
          have H' := AM H
          clear H
          have hcz24_0 : w14.cell? ⟨gb244, 0, none⟩ = some (.int .i64 a0_0) := (bC BK244.out 0).trans rfl
          have hcz24_1 : w14.cell? ⟨gb244, 1, none⟩ = some (.int .i64 a0_1) := (bC BK244.out 1).trans rfl
          have hcz24_2 : w14.cell? ⟨gb244, 2, none⟩ = some (.int .i64 a0_2) := (bC BK244.out 2).trans rfl
          have hcz24_3 : w14.cell? ⟨gb244, 3, none⟩ = some (.int .i64 a0_3) := (bC BK244.out 3).trans rfl
          have hcz24_4 : w14.cell? ⟨gb244, 4, none⟩ = some (.int .i64 a0_4) := (bC BK244.out 4).trans rfl
          have hcz24_5 : w14.cell? ⟨gb244, 5, none⟩ = some (.int .i64 a0_5) := (bC BK244.out 5).trans rfl
          have hcz24_6 : w14.cell? ⟨gb244, 6, none⟩ = some (.slice A0_6 l0_6.length c0_6) := (bC BK244.out 6).trans rfl
          have hcz24_7 : w14.cell? ⟨gb244, 7, none⟩ = some (.int .i64 a0_7) := (bC BK244.out 7).trans rfl
          have hcz24_8 : w14.cell? ⟨gb244, 8, none⟩ = some (.slice A0_8 l0_8.length c0_8) := (bC BK244.out 8).trans rfl
          have hcz24_9 : w14.cell? ⟨gb244, 9, none⟩ = some (.int .i64 a0_9) := (bC BK244.out 9).trans rfl
          have hfz24_0 := bF BK244.out 0
          have hfz24_1 := bF BK244.out 1
          have hfz24_2 := bF BK244.out 2
          have hfz24_3 := bF BK244.out 3
          have hfz24_4 := bF BK244.out 4
          have hfz24_5 := bF BK244.out 5
          have hfz24_6 := bF BK244.out 6
          have hfz24_7 := bF BK244.out 7
          have hfz24_8 := bF BK244.out 8
          have hfz24_9 := bF BK244.out 9
          go_wp2_with (first | ((with_reducible refine gC (f := 58) rfl ?_); refine gL (some 32) rfl rfl Tryd.func58 (by kernel_rfl) rfl #[.agg #[.int .i64 a0_1, .int .i64 a0_2, .int .i64 a0_3]] rfl (by (try simp only [List.map_toArray, List.map_cons, List.map_nil]); first | done | rfl | (simp only [List.length_drop, List.length_take]; rfl)) ?_; (with_reducible refine (base_Right.calls kj2 a0_1 a0_2 a0_3 false _ A15.out).mono ?_); rintro e w25 ⟨rfl, hb⟩; refine ⟨_, rfl, ?_⟩; have n0_ := AM (kB (g := gb244) (o := .cells #[.int .i64 a0_0, .int .i64 a0_1, .int .i64 a0_2, .int .i64 a0_3, .int .i64 a0_4, .int .i64 a0_5, .slice A0_6 l0_6.length c0_6, .int .i64 a0_7, .slice A0_8 l0_8.length c0_8, .int .i64 a0_9] 57 (0, 0)) (kW BK244) hb); have n1_ := AM (bT bQ hb); clear BK244; clear HB; have BK244 := n0_; have HB := n1_; clear n0_ n1_; (try clear hb); (try clear hb2); (try clear hk); (try clear hi)))
          go_meet
          case rel => exact ⟨_, (true), (by first | rfl | (simp; done) | (simp [*]; done)), H', ⟨by have := HJ2.out; first | omega | exact Nat.le_refl _⟩, ⟨by (with_reducible repeat (first | refine kD ?_ _ | refine k1_ ?_ | refine kA ?_ _)); exact BK244.out⟩, ⟨by repeat (first | (with_reducible first | exact HB.out | apply bA | apply bD | apply b1 | refine bS ?_ GE244.out) | exact HB.out)⟩⟩
        subst c16
        have H1 : ((money_Right.f kj2 (([a0_4, a0_5, a0_7, a0_9] : List Int))).bind fun t251 => (year_Check.j1 kj2 t245 (!t251) a0_0 a0_1 a0_2 a0_3 a0_4 a0_5 l0_6 a0_7 l0_8 a0_9)) = some r := by rw [if_pos rfl] at H; exact H
        clear H
        have H := H1
        clear H1
        obtain ⟨y248, hy248⟩ : ∃ y_ : List Int, y_ = (([a0_4, a0_5, a0_7, a0_9] : List Int)) := ⟨_, rfl⟩
        replace H : ((money_Right.f kj2 y248).bind fun t251 => (year_Check.j1 kj2 t245 (!t251) a0_0 a0_1 a0_2 a0_3 a0_4 a0_5 l0_6 a0_7 l0_8 a0_9)) = some r := by first | (rw [hy248]; with_reducible exact H) | (have H2_ := (Option.bind_some _ _).symm.trans H; rw [hy248]; with_reducible exact H2_) | (have H2_ := (Option.bind_some _ _).symm.trans H; with_reducible exact H2_) | with_reducible exact H | (rw [hy248]; exact H) | exact H
        have Ny248 := AM hy248
        clear hy248
        replace H := Option.bind_eq_some_iff.mp H
        obtain ⟨t251, A170, H⟩ := H
        replace H : (year_Check.j1 kj2 t245 (!t251) a0_0 a0_1 a0_2 a0_3 a0_4 a0_5 l0_6 a0_7 l0_8 a0_9) = some r := H
        have A17 := AM A170
        clear A170
        have H' := AM H
        clear H
        have hcz18_0 : w14.cell? ⟨gb244, 0, none⟩ = some (.int .i64 a0_0) := (bC BK244.out 0).trans rfl
        have hcz18_1 : w14.cell? ⟨gb244, 1, none⟩ = some (.int .i64 a0_1) := (bC BK244.out 1).trans rfl
        have hcz18_2 : w14.cell? ⟨gb244, 2, none⟩ = some (.int .i64 a0_2) := (bC BK244.out 2).trans rfl
        have hcz18_3 : w14.cell? ⟨gb244, 3, none⟩ = some (.int .i64 a0_3) := (bC BK244.out 3).trans rfl
        have hcz18_4 : w14.cell? ⟨gb244, 4, none⟩ = some (.int .i64 a0_4) := (bC BK244.out 4).trans rfl
        have hcz18_5 : w14.cell? ⟨gb244, 5, none⟩ = some (.int .i64 a0_5) := (bC BK244.out 5).trans rfl
        have hcz18_6 : w14.cell? ⟨gb244, 6, none⟩ = some (.slice A0_6 l0_6.length c0_6) := (bC BK244.out 6).trans rfl
        have hcz18_7 : w14.cell? ⟨gb244, 7, none⟩ = some (.int .i64 a0_7) := (bC BK244.out 7).trans rfl
        have hcz18_8 : w14.cell? ⟨gb244, 8, none⟩ = some (.slice A0_8 l0_8.length c0_8) := (bC BK244.out 8).trans rfl
        have hcz18_9 : w14.cell? ⟨gb244, 9, none⟩ = some (.int .i64 a0_9) := (bC BK244.out 9).trans rfl
        have hfz18_0 := bF BK244.out 0
        have hfz18_1 := bF BK244.out 1
        have hfz18_2 := bF BK244.out 2
        have hfz18_3 := bF BK244.out 3
        have hfz18_4 := bF BK244.out 4
        have hfz18_5 := bF BK244.out 5
        have hfz18_6 := bF BK244.out 6
        have hfz18_7 := bF BK244.out 7
        have hfz18_8 := bF BK244.out 8
        have hfz18_9 := bF BK244.out 9
        go_wp2_with (first | ((with_reducible refine gC (f := 58) rfl ?_); refine gL (some 32) rfl rfl Tryd.func58 (by kernel_rfl) rfl #[.agg #[.int .i64 a0_1, .int .i64 a0_2, .int .i64 a0_3]] rfl (by (try simp only [List.map_toArray, List.map_cons, List.map_nil]); first | done | rfl | (simp only [List.length_drop, List.length_take]; rfl)) ?_; (with_reducible refine (base_Right.calls kj2 a0_1 a0_2 a0_3 true _ A15.out).mono ?_); rintro e w19 ⟨rfl, hb⟩; refine ⟨_, rfl, ?_⟩; have n0_ := AM (kB (g := gb244) (o := .cells #[.int .i64 a0_0, .int .i64 a0_1, .int .i64 a0_2, .int .i64 a0_3, .int .i64 a0_4, .int .i64 a0_5, .slice A0_6 l0_6.length c0_6, .int .i64 a0_7, .slice A0_8 l0_8.length c0_8, .int .i64 a0_9] 57 (0, 0)) (kW BK244) hb); have n1_ := AM (bT bQ hb); clear BK244; clear HB; have BK244 := n0_; have HB := n1_; clear n0_ n1_; (try clear hb); (try clear hb2); (try clear hk); (try clear hi); have hcz20_0 : w19.cell? ⟨gb244, 0, none⟩ = some (.int .i64 a0_0) := (bC BK244.out 0).trans rfl; have hcz20_1 : w19.cell? ⟨gb244, 1, none⟩ = some (.int .i64 a0_1) := (bC BK244.out 1).trans rfl; have hcz20_2 : w19.cell? ⟨gb244, 2, none⟩ = some (.int .i64 a0_2) := (bC BK244.out 2).trans rfl; have hcz20_3 : w19.cell? ⟨gb244, 3, none⟩ = some (.int .i64 a0_3) := (bC BK244.out 3).trans rfl; have hcz20_4 : w19.cell? ⟨gb244, 4, none⟩ = some (.int .i64 a0_4) := (bC BK244.out 4).trans rfl; have hcz20_5 : w19.cell? ⟨gb244, 5, none⟩ = some (.int .i64 a0_5) := (bC BK244.out 5).trans rfl; have hcz20_6 : w19.cell? ⟨gb244, 6, none⟩ = some (.slice A0_6 l0_6.length c0_6) := (bC BK244.out 6).trans rfl; have hcz20_7 : w19.cell? ⟨gb244, 7, none⟩ = some (.int .i64 a0_7) := (bC BK244.out 7).trans rfl; have hcz20_8 : w19.cell? ⟨gb244, 8, none⟩ = some (.slice A0_8 l0_8.length c0_8) := (bC BK244.out 8).trans rfl; have hcz20_9 : w19.cell? ⟨gb244, 9, none⟩ = some (.int .i64 a0_9) := (bC BK244.out 9).trans rfl; have hfz20_0 := bF BK244.out 0; have hfz20_1 := bF BK244.out 1; have hfz20_2 := bF BK244.out 2; have hfz20_3 := bF BK244.out 3; have hfz20_4 := bF BK244.out 4; have hfz20_5 := bF BK244.out 5; have hfz20_6 := bF BK244.out 6; have hfz20_7 := bF BK244.out 7; have hfz20_8 := bF BK244.out 8; have hfz20_9 := bF BK244.out 9) | ((with_reducible refine gD (N := 43) rfl ?_); (try (refine gG (by rfl) ?_; dsimp only)); refine Kd.R_lit (Kd.int .i64) _ 2 ?hg (N := 43) ?hd (xs := ([a0_4, a0_5, a0_7, a0_9] : List Int)) (inner := [.int .i64 a0_4, .int .i64 a0_5, .int .i64 a0_7, .int .i64 a0_9]) (ok := fun _ => True) (okp := fun _ => True) ?hr ?hp (fun _ hk => hk) trivial (Below.refl _ _) (Nat.le_refl _) (by simp) ?_; (case hd => rfl); (case hg => rfl); (case hr => first | (go_simp; done) | (go_simp; rfl)); (case hp => exact (Reps.one (show Kd.M (Kd.int .i64) _ _ _ a0_4 [.int .i64 a0_4] from rfl) (Reps.one (show Kd.M (Kd.int .i64) _ _ _ a0_5 [.int .i64 a0_5] from rfl) (Reps.one (show Kd.M (Kd.int .i64) _ _ _ a0_7 [.int .i64 a0_7] from rfl) (Reps.one (show Kd.M (Kd.int .i64) _ _ _ a0_9 [.int .i64 a0_9] from rfl) (Reps.none _ _)))))); intro v249 w21 ho22 hb hg_ hnew_; clear hg_ hnew_; (first | rw [← Ny248.out] at ho22 | (simp only [Int.reduceToNat] at ho22; rw [← Ny248.out] at ho22)); have n0_ := AM (Kd.R_lower ho22 (bZ bQ)); have n1_ := AM (kB (g := gb244) (o := .cells #[.int .i64 a0_0, .int .i64 a0_1, .int .i64 a0_2, .int .i64 a0_3, .int .i64 a0_4, .int .i64 a0_5, .slice A0_6 l0_6.length c0_6, .int .i64 a0_7, .slice A0_8 l0_8.length c0_8, .int .i64 a0_9] 57 (0, 0)) (kW BK244) hb); have n2_ := AM (bT bQ hb); clear BK244; clear HB; have HO250 := n0_; have BK244 := n1_; have HB := n2_; clear n0_ n1_ n2_; clear hb ho22; obtain ⟨Ao23, co23, eo23⟩ := Kd.R_slice HO250.out; subst eo23) | (go_at_call 34; (with_reducible refine (money_Right.calls kj2 _ _ y248 t251 _ ?side1 ?side2 A17.out).mono ?_); (case side1 => repeat (first | exact (Kd.R_reads' HO250.out).2.2 | (with_reducible refine cA ?_ _) | (with_reducible refine cD ?_ _) | (with_reducible refine c1_ ?_))); (case side2 => exact (Kd.R_reads' HO250.out).2.1); rintro e w' ⟨rfl, ⟨nd, rfl⟩⟩))
        go_meet
        case rel => exact ⟨_, (!t251), (by first | rfl | (simp; done) | (simp [*]; done)), H', ⟨by have := HJ2.out; first | omega | exact Nat.le_refl _⟩, ⟨by (with_reducible repeat (first | refine kD ?_ _ | refine k1_ ?_ | refine kA ?_ _)); exact BK244.out⟩, ⟨by repeat (first | (with_reducible first | exact HB.out | apply bA | apply bD | apply b1 | refine bS ?_ GE244.out) | exact HB.out)⟩⟩
      case rest =>
        clear HC12
        obtain ⟨kq, x46_11, rfl, HA, HJ11, BK244, HB⟩ := hcut
        cases kq with
        | zero => exact absurd HA.out (by simp [year_Check.j1])
        | succ kj11 =>
          have H := HA.out
          clear HA
          simp only [year_Check.j1] at H
          by_cases c26 : x46_11 = true
          · subst c26
            have H1 : (some 10) = some r := by rw [if_pos rfl] at H; exact H
            clear H
            have H := H1
            clear H1
            obtain rfl := Option.some.inj H
            go_wp2
            go_ret
            exact ⟨by first | rfl | (simp [errW_none, errW_some] <;> rfl) | (simp [*, errW_none, errW_some] <;> rfl), by repeat (first | (with_reducible first | exact HB.out | apply bA | apply bD | apply b1 | refine bS ?_ GE244.out) | exact HB.out)⟩
          replace c26 := Bool.eq_false_iff.mpr c26
          subst c26
          have H1 : ((attach_Sum.f kj11 l0_8).bind fun bt252 => (if bt252.2 = 0 then (if (wrap64 ((wrap64 (a0_1 - a0_4)) - t245)) = a0_7 then (if (wrap64 (a0_7 - bt252.1)) = a0_9 then (some 0) else (some 5)) else (some 5)) else (some bt252.2))) = some r := by rw [if_neg (show ¬ (false = true) by decide)] at H; exact H
          clear H
          have H := H1
          clear H1
          replace H := Option.bind_eq_some_iff.mp H
          obtain ⟨⟨t252, t253⟩, A270, H⟩ := H
          replace H : (if t253 = 0 then (if (wrap64 ((wrap64 (a0_1 - a0_4)) - t245)) = a0_7 then (if (wrap64 (a0_7 - t252)) = a0_9 then (some 0) else (some 5)) else (some 5)) else (some t253)) = some r := H
          have A27 := AM A270
          clear A270
          by_cases c28 : t253 = 0
          rotate_left
          · rw [if_neg c28] at H
            have c28b0 : (t253 == 0) = false := beq_eq_false_iff_ne.mpr c28
            have c28b1 : (t253 != 0) = true := bne_iff_ne.mpr c28
            obtain rfl := Option.some.inj H
            have hcz40_0 : wc.cell? ⟨gb244, 0, none⟩ = some (.int .i64 a0_0) := (bC BK244.out 0).trans rfl
            have hcz40_1 : wc.cell? ⟨gb244, 1, none⟩ = some (.int .i64 a0_1) := (bC BK244.out 1).trans rfl
            have hcz40_2 : wc.cell? ⟨gb244, 2, none⟩ = some (.int .i64 a0_2) := (bC BK244.out 2).trans rfl
            have hcz40_3 : wc.cell? ⟨gb244, 3, none⟩ = some (.int .i64 a0_3) := (bC BK244.out 3).trans rfl
            have hcz40_4 : wc.cell? ⟨gb244, 4, none⟩ = some (.int .i64 a0_4) := (bC BK244.out 4).trans rfl
            have hcz40_5 : wc.cell? ⟨gb244, 5, none⟩ = some (.int .i64 a0_5) := (bC BK244.out 5).trans rfl
            have hcz40_6 : wc.cell? ⟨gb244, 6, none⟩ = some (.slice A0_6 l0_6.length c0_6) := (bC BK244.out 6).trans rfl
            have hcz40_7 : wc.cell? ⟨gb244, 7, none⟩ = some (.int .i64 a0_7) := (bC BK244.out 7).trans rfl
            have hcz40_8 : wc.cell? ⟨gb244, 8, none⟩ = some (.slice A0_8 l0_8.length c0_8) := (bC BK244.out 8).trans rfl
            have hcz40_9 : wc.cell? ⟨gb244, 9, none⟩ = some (.int .i64 a0_9) := (bC BK244.out 9).trans rfl
            have hfz40_0 := bF BK244.out 0
            have hfz40_1 := bF BK244.out 1
            have hfz40_2 := bF BK244.out 2
            have hfz40_3 := bF BK244.out 3
            have hfz40_4 := bF BK244.out 4
            have hfz40_5 := bF BK244.out 5
            have hfz40_6 := bF BK244.out 6
            have hfz40_7 := bF BK244.out 7
            have hfz40_8 := bF BK244.out 8
            have hfz40_9 := bF BK244.out 9
            go_wp2_with (first | ((with_reducible refine gC (f := 54) rfl ?_); refine gL (some 50) rfl rfl Tryd.func54 (by kernel_rfl) rfl #[.slice A0_8 l0_8.length c0_8] rfl (by (try simp only [List.map_toArray, List.map_cons, List.map_nil]); first | done | rfl | (simp only [List.length_drop, List.length_take]; rfl)) ?_; (with_reducible refine (attach_Sum.calls kj11 _ _ l0_8 t252 t253 _ ?side1 ?side2 A27.out).mono ?_); (case side1 => exact cQ HR0_8 HB); (case side2 => exact HC0_8.out); rintro e w41 ⟨rfl, hb⟩; refine ⟨_, rfl, ?_⟩; have n0_ := AM (kB (g := gb244) (o := .cells #[.int .i64 a0_0, .int .i64 a0_1, .int .i64 a0_2, .int .i64 a0_3, .int .i64 a0_4, .int .i64 a0_5, .slice A0_6 l0_6.length c0_6, .int .i64 a0_7, .slice A0_8 l0_8.length c0_8, .int .i64 a0_9] 57 (0, 0)) (kW BK244) hb); have n1_ := AM (bT bQ hb); clear BK244; clear HB; have BK244 := n0_; have HB := n1_; clear n0_ n1_; (try clear hb); (try clear hb2); (try clear hk); (try clear hi)))
            go_ret
            exact ⟨by first | rfl | (simp [errW_none, errW_some] <;> rfl) | (simp [*, errW_none, errW_some] <;> rfl), by repeat (first | (with_reducible first | exact HB.out | apply bA | apply bD | apply b1 | refine bS ?_ GE244.out) | exact HB.out)⟩
          rw [if_pos c28] at H
          have c28b0 : (t253 == 0) = true := beq_iff_eq.mpr c28
          have c28b1 : (t253 != 0) = false := bne_eq_false_iff_eq.mpr c28
          clear c28
          by_cases c29 : (wrap64 ((wrap64 (a0_1 - a0_4)) - t245)) = a0_7
          rotate_left
          · rw [if_neg c29] at H
            have c29b0 : ((wrap64 ((wrap64 (a0_1 - a0_4)) - t245)) == a0_7) = false := beq_eq_false_iff_ne.mpr c29
            have c29b1 : ((wrap64 ((wrap64 (a0_1 - a0_4)) - t245)) != a0_7) = true := bne_iff_ne.mpr c29
            obtain rfl := Option.some.inj H
            have hcz37_0 : wc.cell? ⟨gb244, 0, none⟩ = some (.int .i64 a0_0) := (bC BK244.out 0).trans rfl
            have hcz37_1 : wc.cell? ⟨gb244, 1, none⟩ = some (.int .i64 a0_1) := (bC BK244.out 1).trans rfl
            have hcz37_2 : wc.cell? ⟨gb244, 2, none⟩ = some (.int .i64 a0_2) := (bC BK244.out 2).trans rfl
            have hcz37_3 : wc.cell? ⟨gb244, 3, none⟩ = some (.int .i64 a0_3) := (bC BK244.out 3).trans rfl
            have hcz37_4 : wc.cell? ⟨gb244, 4, none⟩ = some (.int .i64 a0_4) := (bC BK244.out 4).trans rfl
            have hcz37_5 : wc.cell? ⟨gb244, 5, none⟩ = some (.int .i64 a0_5) := (bC BK244.out 5).trans rfl
            have hcz37_6 : wc.cell? ⟨gb244, 6, none⟩ = some (.slice A0_6 l0_6.length c0_6) := (bC BK244.out 6).trans rfl
            have hcz37_7 : wc.cell? ⟨gb244, 7, none⟩ = some (.int .i64 a0_7) := (bC BK244.out 7).trans rfl
            have hcz37_8 : wc.cell? ⟨gb244, 8, none⟩ = some (.slice A0_8 l0_8.length c0_8) := (bC BK244.out 8).trans rfl
            have hcz37_9 : wc.cell? ⟨gb244, 9, none⟩ = some (.int .i64 a0_9) := (bC BK244.out 9).trans rfl
            have hfz37_0 := bF BK244.out 0
            have hfz37_1 := bF BK244.out 1
            have hfz37_2 := bF BK244.out 2
            have hfz37_3 := bF BK244.out 3
            have hfz37_4 := bF BK244.out 4
            have hfz37_5 := bF BK244.out 5
            have hfz37_6 := bF BK244.out 6
            have hfz37_7 := bF BK244.out 7
            have hfz37_8 := bF BK244.out 8
            have hfz37_9 := bF BK244.out 9
            go_wp2_with (first | ((with_reducible refine gC (f := 54) rfl ?_); refine gL (some 50) rfl rfl Tryd.func54 (by kernel_rfl) rfl #[.slice A0_8 l0_8.length c0_8] rfl (by (try simp only [List.map_toArray, List.map_cons, List.map_nil]); first | done | rfl | (simp only [List.length_drop, List.length_take]; rfl)) ?_; (with_reducible refine (attach_Sum.calls kj11 _ _ l0_8 t252 t253 _ ?side1 ?side2 A27.out).mono ?_); (case side1 => exact cQ HR0_8 HB); (case side2 => exact HC0_8.out); rintro e w38 ⟨rfl, hb⟩; refine ⟨_, rfl, ?_⟩; have n0_ := AM (kB (g := gb244) (o := .cells #[.int .i64 a0_0, .int .i64 a0_1, .int .i64 a0_2, .int .i64 a0_3, .int .i64 a0_4, .int .i64 a0_5, .slice A0_6 l0_6.length c0_6, .int .i64 a0_7, .slice A0_8 l0_8.length c0_8, .int .i64 a0_9] 57 (0, 0)) (kW BK244) hb); have n1_ := AM (bT bQ hb); clear BK244; clear HB; have BK244 := n0_; have HB := n1_; clear n0_ n1_; (try clear hb); (try clear hb2); (try clear hk); (try clear hi); have hcz39_0 : w38.cell? ⟨gb244, 0, none⟩ = some (.int .i64 a0_0) := (bC BK244.out 0).trans rfl; have hcz39_1 : w38.cell? ⟨gb244, 1, none⟩ = some (.int .i64 a0_1) := (bC BK244.out 1).trans rfl; have hcz39_2 : w38.cell? ⟨gb244, 2, none⟩ = some (.int .i64 a0_2) := (bC BK244.out 2).trans rfl; have hcz39_3 : w38.cell? ⟨gb244, 3, none⟩ = some (.int .i64 a0_3) := (bC BK244.out 3).trans rfl; have hcz39_4 : w38.cell? ⟨gb244, 4, none⟩ = some (.int .i64 a0_4) := (bC BK244.out 4).trans rfl; have hcz39_5 : w38.cell? ⟨gb244, 5, none⟩ = some (.int .i64 a0_5) := (bC BK244.out 5).trans rfl; have hcz39_6 : w38.cell? ⟨gb244, 6, none⟩ = some (.slice A0_6 l0_6.length c0_6) := (bC BK244.out 6).trans rfl; have hcz39_7 : w38.cell? ⟨gb244, 7, none⟩ = some (.int .i64 a0_7) := (bC BK244.out 7).trans rfl; have hcz39_8 : w38.cell? ⟨gb244, 8, none⟩ = some (.slice A0_8 l0_8.length c0_8) := (bC BK244.out 8).trans rfl; have hcz39_9 : w38.cell? ⟨gb244, 9, none⟩ = some (.int .i64 a0_9) := (bC BK244.out 9).trans rfl; have hfz39_0 := bF BK244.out 0; have hfz39_1 := bF BK244.out 1; have hfz39_2 := bF BK244.out 2; have hfz39_3 := bF BK244.out 3; have hfz39_4 := bF BK244.out 4; have hfz39_5 := bF BK244.out 5; have hfz39_6 := bF BK244.out 6; have hfz39_7 := bF BK244.out 7; have hfz39_8 := bF BK244.out 8; have hfz39_9 := bF BK244.out 9))
            go_ret
            exact ⟨by first | rfl | (simp [errW_none, errW_some] <;> rfl) | (simp [*, errW_none, errW_some] <;> rfl), by repeat (first | (with_reducible first | exact HB.out | apply bA | apply bD | apply b1 | refine bS ?_ GE244.out) | exact HB.out)⟩
          rw [if_pos c29] at H
          have c29b0 : ((wrap64 ((wrap64 (a0_1 - a0_4)) - t245)) == a0_7) = true := beq_iff_eq.mpr c29
          have c29b1 : ((wrap64 ((wrap64 (a0_1 - a0_4)) - t245)) != a0_7) = false := bne_eq_false_iff_eq.mpr c29
          clear c29
          by_cases c30 : (wrap64 (a0_7 - t252)) = a0_9
          rotate_left
          · rw [if_neg c30] at H
            have c30b0 : ((wrap64 (a0_7 - t252)) == a0_9) = false := beq_eq_false_iff_ne.mpr c30
            have c30b1 : ((wrap64 (a0_7 - t252)) != a0_9) = true := bne_iff_ne.mpr c30
            obtain rfl := Option.some.inj H
            have hcz34_0 : wc.cell? ⟨gb244, 0, none⟩ = some (.int .i64 a0_0) := (bC BK244.out 0).trans rfl
            have hcz34_1 : wc.cell? ⟨gb244, 1, none⟩ = some (.int .i64 a0_1) := (bC BK244.out 1).trans rfl
            have hcz34_2 : wc.cell? ⟨gb244, 2, none⟩ = some (.int .i64 a0_2) := (bC BK244.out 2).trans rfl
            have hcz34_3 : wc.cell? ⟨gb244, 3, none⟩ = some (.int .i64 a0_3) := (bC BK244.out 3).trans rfl
            have hcz34_4 : wc.cell? ⟨gb244, 4, none⟩ = some (.int .i64 a0_4) := (bC BK244.out 4).trans rfl
            have hcz34_5 : wc.cell? ⟨gb244, 5, none⟩ = some (.int .i64 a0_5) := (bC BK244.out 5).trans rfl
            have hcz34_6 : wc.cell? ⟨gb244, 6, none⟩ = some (.slice A0_6 l0_6.length c0_6) := (bC BK244.out 6).trans rfl
            have hcz34_7 : wc.cell? ⟨gb244, 7, none⟩ = some (.int .i64 a0_7) := (bC BK244.out 7).trans rfl
            have hcz34_8 : wc.cell? ⟨gb244, 8, none⟩ = some (.slice A0_8 l0_8.length c0_8) := (bC BK244.out 8).trans rfl
            have hcz34_9 : wc.cell? ⟨gb244, 9, none⟩ = some (.int .i64 a0_9) := (bC BK244.out 9).trans rfl
            have hfz34_0 := bF BK244.out 0
            have hfz34_1 := bF BK244.out 1
            have hfz34_2 := bF BK244.out 2
            have hfz34_3 := bF BK244.out 3
            have hfz34_4 := bF BK244.out 4
            have hfz34_5 := bF BK244.out 5
            have hfz34_6 := bF BK244.out 6
            have hfz34_7 := bF BK244.out 7
            have hfz34_8 := bF BK244.out 8
            have hfz34_9 := bF BK244.out 9
            go_wp2_with (first | ((with_reducible refine gC (f := 54) rfl ?_); refine gL (some 50) rfl rfl Tryd.func54 (by kernel_rfl) rfl #[.slice A0_8 l0_8.length c0_8] rfl (by (try simp only [List.map_toArray, List.map_cons, List.map_nil]); first | done | rfl | (simp only [List.length_drop, List.length_take]; rfl)) ?_; (with_reducible refine (attach_Sum.calls kj11 _ _ l0_8 t252 t253 _ ?side1 ?side2 A27.out).mono ?_); (case side1 => exact cQ HR0_8 HB); (case side2 => exact HC0_8.out); rintro e w35 ⟨rfl, hb⟩; refine ⟨_, rfl, ?_⟩; have n0_ := AM (kB (g := gb244) (o := .cells #[.int .i64 a0_0, .int .i64 a0_1, .int .i64 a0_2, .int .i64 a0_3, .int .i64 a0_4, .int .i64 a0_5, .slice A0_6 l0_6.length c0_6, .int .i64 a0_7, .slice A0_8 l0_8.length c0_8, .int .i64 a0_9] 57 (0, 0)) (kW BK244) hb); have n1_ := AM (bT bQ hb); clear BK244; clear HB; have BK244 := n0_; have HB := n1_; clear n0_ n1_; (try clear hb); (try clear hb2); (try clear hk); (try clear hi); have hcz36_0 : w35.cell? ⟨gb244, 0, none⟩ = some (.int .i64 a0_0) := (bC BK244.out 0).trans rfl; have hcz36_1 : w35.cell? ⟨gb244, 1, none⟩ = some (.int .i64 a0_1) := (bC BK244.out 1).trans rfl; have hcz36_2 : w35.cell? ⟨gb244, 2, none⟩ = some (.int .i64 a0_2) := (bC BK244.out 2).trans rfl; have hcz36_3 : w35.cell? ⟨gb244, 3, none⟩ = some (.int .i64 a0_3) := (bC BK244.out 3).trans rfl; have hcz36_4 : w35.cell? ⟨gb244, 4, none⟩ = some (.int .i64 a0_4) := (bC BK244.out 4).trans rfl; have hcz36_5 : w35.cell? ⟨gb244, 5, none⟩ = some (.int .i64 a0_5) := (bC BK244.out 5).trans rfl; have hcz36_6 : w35.cell? ⟨gb244, 6, none⟩ = some (.slice A0_6 l0_6.length c0_6) := (bC BK244.out 6).trans rfl; have hcz36_7 : w35.cell? ⟨gb244, 7, none⟩ = some (.int .i64 a0_7) := (bC BK244.out 7).trans rfl; have hcz36_8 : w35.cell? ⟨gb244, 8, none⟩ = some (.slice A0_8 l0_8.length c0_8) := (bC BK244.out 8).trans rfl; have hcz36_9 : w35.cell? ⟨gb244, 9, none⟩ = some (.int .i64 a0_9) := (bC BK244.out 9).trans rfl; have hfz36_0 := bF BK244.out 0; have hfz36_1 := bF BK244.out 1; have hfz36_2 := bF BK244.out 2; have hfz36_3 := bF BK244.out 3; have hfz36_4 := bF BK244.out 4; have hfz36_5 := bF BK244.out 5; have hfz36_6 := bF BK244.out 6; have hfz36_7 := bF BK244.out 7; have hfz36_8 := bF BK244.out 8; have hfz36_9 := bF BK244.out 9))
            go_ret
            exact ⟨by first | rfl | (simp [errW_none, errW_some] <;> rfl) | (simp [*, errW_none, errW_some] <;> rfl), by repeat (first | (with_reducible first | exact HB.out | apply bA | apply bD | apply b1 | refine bS ?_ GE244.out) | exact HB.out)⟩
          rw [if_pos c30] at H
          have c30b0 : ((wrap64 (a0_7 - t252)) == a0_9) = true := beq_iff_eq.mpr c30
          have c30b1 : ((wrap64 (a0_7 - t252)) != a0_9) = false := bne_eq_false_iff_eq.mpr c30
          clear c30
          obtain rfl := Option.some.inj H
          have hcz31_0 : wc.cell? ⟨gb244, 0, none⟩ = some (.int .i64 a0_0) := (bC BK244.out 0).trans rfl
          have hcz31_1 : wc.cell? ⟨gb244, 1, none⟩ = some (.int .i64 a0_1) := (bC BK244.out 1).trans rfl
          have hcz31_2 : wc.cell? ⟨gb244, 2, none⟩ = some (.int .i64 a0_2) := (bC BK244.out 2).trans rfl
          have hcz31_3 : wc.cell? ⟨gb244, 3, none⟩ = some (.int .i64 a0_3) := (bC BK244.out 3).trans rfl
          have hcz31_4 : wc.cell? ⟨gb244, 4, none⟩ = some (.int .i64 a0_4) := (bC BK244.out 4).trans rfl
          have hcz31_5 : wc.cell? ⟨gb244, 5, none⟩ = some (.int .i64 a0_5) := (bC BK244.out 5).trans rfl
          have hcz31_6 : wc.cell? ⟨gb244, 6, none⟩ = some (.slice A0_6 l0_6.length c0_6) := (bC BK244.out 6).trans rfl
          have hcz31_7 : wc.cell? ⟨gb244, 7, none⟩ = some (.int .i64 a0_7) := (bC BK244.out 7).trans rfl
          have hcz31_8 : wc.cell? ⟨gb244, 8, none⟩ = some (.slice A0_8 l0_8.length c0_8) := (bC BK244.out 8).trans rfl
          have hcz31_9 : wc.cell? ⟨gb244, 9, none⟩ = some (.int .i64 a0_9) := (bC BK244.out 9).trans rfl
          have hfz31_0 := bF BK244.out 0
          have hfz31_1 := bF BK244.out 1
          have hfz31_2 := bF BK244.out 2
          have hfz31_3 := bF BK244.out 3
          have hfz31_4 := bF BK244.out 4
          have hfz31_5 := bF BK244.out 5
          have hfz31_6 := bF BK244.out 6
          have hfz31_7 := bF BK244.out 7
          have hfz31_8 := bF BK244.out 8
          have hfz31_9 := bF BK244.out 9
          go_wp2_with (first | ((with_reducible refine gC (f := 54) rfl ?_); refine gL (some 50) rfl rfl Tryd.func54 (by kernel_rfl) rfl #[.slice A0_8 l0_8.length c0_8] rfl (by (try simp only [List.map_toArray, List.map_cons, List.map_nil]); first | done | rfl | (simp only [List.length_drop, List.length_take]; rfl)) ?_; (with_reducible refine (attach_Sum.calls kj11 _ _ l0_8 t252 t253 _ ?side1 ?side2 A27.out).mono ?_); (case side1 => exact cQ HR0_8 HB); (case side2 => exact HC0_8.out); rintro e w32 ⟨rfl, hb⟩; refine ⟨_, rfl, ?_⟩; have n0_ := AM (kB (g := gb244) (o := .cells #[.int .i64 a0_0, .int .i64 a0_1, .int .i64 a0_2, .int .i64 a0_3, .int .i64 a0_4, .int .i64 a0_5, .slice A0_6 l0_6.length c0_6, .int .i64 a0_7, .slice A0_8 l0_8.length c0_8, .int .i64 a0_9] 57 (0, 0)) (kW BK244) hb); have n1_ := AM (bT bQ hb); clear BK244; clear HB; have BK244 := n0_; have HB := n1_; clear n0_ n1_; (try clear hb); (try clear hb2); (try clear hk); (try clear hi); have hcz33_0 : w32.cell? ⟨gb244, 0, none⟩ = some (.int .i64 a0_0) := (bC BK244.out 0).trans rfl; have hcz33_1 : w32.cell? ⟨gb244, 1, none⟩ = some (.int .i64 a0_1) := (bC BK244.out 1).trans rfl; have hcz33_2 : w32.cell? ⟨gb244, 2, none⟩ = some (.int .i64 a0_2) := (bC BK244.out 2).trans rfl; have hcz33_3 : w32.cell? ⟨gb244, 3, none⟩ = some (.int .i64 a0_3) := (bC BK244.out 3).trans rfl; have hcz33_4 : w32.cell? ⟨gb244, 4, none⟩ = some (.int .i64 a0_4) := (bC BK244.out 4).trans rfl; have hcz33_5 : w32.cell? ⟨gb244, 5, none⟩ = some (.int .i64 a0_5) := (bC BK244.out 5).trans rfl; have hcz33_6 : w32.cell? ⟨gb244, 6, none⟩ = some (.slice A0_6 l0_6.length c0_6) := (bC BK244.out 6).trans rfl; have hcz33_7 : w32.cell? ⟨gb244, 7, none⟩ = some (.int .i64 a0_7) := (bC BK244.out 7).trans rfl; have hcz33_8 : w32.cell? ⟨gb244, 8, none⟩ = some (.slice A0_8 l0_8.length c0_8) := (bC BK244.out 8).trans rfl; have hcz33_9 : w32.cell? ⟨gb244, 9, none⟩ = some (.int .i64 a0_9) := (bC BK244.out 9).trans rfl; have hfz33_0 := bF BK244.out 0; have hfz33_1 := bF BK244.out 1; have hfz33_2 := bF BK244.out 2; have hfz33_3 := bF BK244.out 3; have hfz33_4 := bF BK244.out 4; have hfz33_5 := bF BK244.out 5; have hfz33_6 := bF BK244.out 6; have hfz33_7 := bF BK244.out 7; have hfz33_8 := bF BK244.out 8; have hfz33_9 := bF BK244.out 9))
          go_ret
          exact ⟨by first | rfl | (simp [errW_none, errW_some] <;> rfl) | (simp [*, errW_none, errW_some] <;> rfl), by repeat (first | (with_reducible first | exact HB.out | apply bA | apply bD | apply b1 | refine bS ?_ GE244.out) | exact HB.out)⟩
end Go.Proofs.YtjljhianehhlgaaDoor.K
