-- by a program of this session, over the kit's printer
import Derived.Test.YtodijkdmcjnpkaaDoorKx0
import Derived.Test.YtodijkdmcjnpkaaDoorKx1
import Derived.Test.YtodijkdmcjnpkaaDoorKx2
import Derived.Test.YtodijkdmcjnpkaaDoorKx4
import Derived.Test.YtodijkdmcjnpkaaDoorKx5
namespace Go.Proofs.YtodijkdmcjnpkaaDoor.K
open Go.RowKit Go.Proofs.YtodijkdmcjnpkaaDoorW.PrintWords Go.Proofs.YtodijkdmcjnpkaaDoorW.PrintLast Go.Proofs.YtodijkdmcjnpkaaDoorW.PrintMore
attribute [local go_sem] max2_int min2_int max_two min_two max_three min_three max_four min_four   -- for this text's walks alone
set_option linter.unusedVariables false
set_option linter.unusedSimpArgs false

attribute [local go_sem high] eqA23
/-! ### frac_Scale: function 31 -/
def frac_Scale.j0 : Nat → Int → Int → Int → Bool → Option (Int × Int)
  | 0, _, _, _, _ => none
  | k + 1, x0, x1, x2, x27 => if x27 = true then (some (0, 1)) else ((frac_floor.f (wrap64 (x0 * x1)) x2).bind fun bt158 => ((money_Right.f k (([bt158.1] : List Int))).bind fun t163 => (if t163 = true then (some (bt158.1, 0)) else (some (0, 10)))))
def frac_Scale.f (k : Nat) (a0 : Int) (a1 : Int) (a2 : Int) : Option (Int × Int) := (money_Right.f k (([a0] : List Int))).bind fun t157 => (if t157 = true then (if a1 < 0 then (frac_Scale.j0 k a0 a1 a2 true) else (if a2 ≤ 0 then (frac_Scale.j0 k a0 a1 a2 true) else (if a1 > 1048576 then (frac_Scale.j0 k a0 a1 a2 true) else (frac_Scale.j0 k a0 a1 a2 (decide (a2 > 1048576)))))) else (some (0, 10)))
set_option maxHeartbeats 8000000 in
set_option maxRecDepth 100000 in
theorem frac_Scale.calls (k : Nat) (a0 : Int) (a1 : Int) (a2 : Int) (r1 : Int) (r2 : Int) (w : World) (h : frac_Scale.f k a0 a1 a2 = some (r1, r2)) :
    Calls Tryd.prog 31 #[.int .i64 a0, .int .i64 a1, .int .i64 a2] w fun e w' => e = .returned (.tuple #[.int .i64 r1, .int .i64 r2]) ∧ Below w.heap.size w w' := by
  have HB := AM (Below.refl w.heap.size w)
  have H : ((money_Right.f k (([a0] : List Int))).bind fun t157 => (if t157 = true then (if a1 < 0 then (frac_Scale.j0 k a0 a1 a2 true) else (if a2 ≤ 0 then (frac_Scale.j0 k a0 a1 a2 true) else (if a1 > 1048576 then (frac_Scale.j0 k a0 a1 a2 true) else (frac_Scale.j0 k a0 a1 a2 (decide (a2 > 1048576)))))) else (some (0, 10)))) = some (r1, r2) := h
  clear h
  obtain ⟨y154, hy154⟩ : ∃ y_ : List Int, y_ = (([a0] : List Int)) := ⟨_, rfl⟩
  replace H : ((money_Right.f k y154).bind fun t157 => (if t157 = true then (if a1 < 0 then (frac_Scale.j0 k a0 a1 a2 true) else (if a2 ≤ 0 then (frac_Scale.j0 k a0 a1 a2 true) else (if a1 > 1048576 then (frac_Scale.j0 k a0 a1 a2 true) else (frac_Scale.j0 k a0 a1 a2 (decide (a2 > 1048576)))))) else (some (0, 10)))) = some (r1, r2) := by first | (rw [hy154]; with_reducible exact H) | (have H2_ := (Option.bind_some _ _).symm.trans H; rw [hy154]; with_reducible exact H2_) | (have H2_ := (Option.bind_some _ _).symm.trans H; with_reducible exact H2_) | with_reducible exact H | (rw [hy154]; exact H) | exact H
  have Ny154 := AM hy154
  clear hy154
  replace H := Option.bind_eq_some_iff.mp H
  obtain ⟨t157, A40, H⟩ := H
  replace H : (if t157 = true then (if a1 < 0 then (frac_Scale.j0 k a0 a1 a2 true) else (if a2 ≤ 0 then (frac_Scale.j0 k a0 a1 a2 true) else (if a1 > 1048576 then (frac_Scale.j0 k a0 a1 a2 true) else (frac_Scale.j0 k a0 a1 a2 (decide (a2 > 1048576)))))) else (some (0, 10))) = some (r1, r2) := H
  have A4 := AM A40
  clear A40
  by_cases c5 : t157 = true
  rotate_left
  · replace c5 := Bool.eq_false_iff.mpr c5
    subst c5
    have H1 : (some (0, 10)) = some (r1, r2) := by rw [if_neg (show ¬ (false = true) by decide)] at H; exact H
    clear H
    have H := H1
    clear H1
    simp only [Option.some.injEq, Prod.mk.injEq] at H
    obtain ⟨rfl, rfl⟩ := H
    go_enter Tryd.func31, Tryd.ntmps31
    go_wp2_with (first | ((with_reducible refine gD (N := 11) rfl ?_); refine Kd.R_lit (Kd.int .i64) _ 2 ?hg (N := 11) ?hd (xs := ([a0] : List Int)) (inner := [.int .i64 a0]) (ok := fun _ => True) (okp := fun _ => True) ?hr ?hp (fun _ hk => hk) trivial (Below.refl _ _) (Nat.le_refl _) (by simp) ?_; (case hd => rfl); (case hg => rfl); (case hr => first | (go_simp; done) | (go_simp; rfl)); (case hp => exact (Reps.one (show Kd.M (Kd.int .i64) _ _ _ a0 [.int .i64 a0] from rfl) (Reps.none _ _))); intro v155 w23 ho24 hb hg_ hnew_; clear hg_ hnew_; (first | rw [← Ny154.out] at ho24 | (simp only [Int.reduceToNat] at ho24; rw [← Ny154.out] at ho24)); have n0_ := AM (Kd.R_lower ho24 (bZ bQ)); have n1_ := AM (bT bQ hb); clear HB; have HO156 := n0_; have HB := n1_; clear n0_ n1_; clear hb ho24; obtain ⟨Ao25, co25, eo25⟩ := Kd.R_slice HO156.out; subst eo25) | ((with_reducible refine gC (f := 32) rfl ?_); refine gL (some 12) rfl rfl Tryd.func32 (by kernel_rfl) rfl #[.slice Ao25 y154.length co25] rfl (by (try simp only [List.map_toArray, List.map_cons, List.map_nil]); first | done | rfl | (simp only [List.length_drop, List.length_take]; rfl)) ?_; (with_reducible refine (money_Right.calls k _ _ y154 false _ ?side1 ?side2 A4.out).mono ?_); (case side1 => repeat (first | exact (Kd.R_reads' HO156.out).2.2 | (with_reducible refine cA ?_ _) | (with_reducible refine cD ?_ _) | (with_reducible refine c1_ ?_))); (case side2 => exact (Kd.R_reads' HO156.out).2.1); rintro e w' ⟨rfl, ⟨nd, rfl⟩⟩; refine ⟨_, rfl, ?_⟩))
    go_ret2
    exact ⟨by first | rfl | (simp [errW_none, errW_some] <;> rfl) | (simp [*, errW_none, errW_some] <;> rfl), by repeat (first | (with_reducible first | exact HB.out | apply bA | apply bD | apply b1) | exact HB.out)⟩

  subst c5
  have H1 : (if a1 < 0 then (frac_Scale.j0 k a0 a1 a2 true) else (if a2 ≤ 0 then (frac_Scale.j0 k a0 a1 a2 true) else (if a1 > 1048576 then (frac_Scale.j0 k a0 a1 a2 true) else (frac_Scale.j0 k a0 a1 a2 (decide (a2 > 1048576)))))) = some (r1, r2) := by rw [if_pos rfl] at H; exact H
  clear H
  have H := H1
  clear H1
  have HC6 := AM H
  clear H
  go_enter Tryd.func31, Tryd.ntmps31
  go_upto_region 3 with (first | ((with_reducible refine gD (N := 11) rfl ?_); refine Kd.R_lit (Kd.int .i64) _ 2 ?hg (N := 11) ?hd (xs := ([a0] : List Int)) (inner := [.int .i64 a0]) (ok := fun _ => True) (okp := fun _ => True) ?hr ?hp (fun _ hk => hk) trivial (Below.refl _ _) (Nat.le_refl _) (by simp) ?_; (case hd => rfl); (case hg => rfl); (case hr => first | (go_simp; done) | (go_simp; rfl)); (case hp => exact (Reps.one (show Kd.M (Kd.int .i64) _ _ _ a0 [.int .i64 a0] from rfl) (Reps.none _ _))); intro v155 w7 ho8 hb hg_ hnew_; clear hg_ hnew_; (first | rw [← Ny154.out] at ho8 | (simp only [Int.reduceToNat] at ho8; rw [← Ny154.out] at ho8)); have n0_ := AM (Kd.R_lower ho8 (bZ bQ)); have n1_ := AM (bT bQ hb); clear HB; have HO156 := n0_; have HB := n1_; clear n0_ n1_; clear hb ho8; obtain ⟨Ao9, co9, eo9⟩ := Kd.R_slice HO156.out; subst eo9) | ((with_reducible refine gC (f := 32) rfl ?_); refine gL (some 12) rfl rfl Tryd.func32 (by kernel_rfl) rfl #[.slice Ao9 y154.length co9] rfl (by (try simp only [List.map_toArray, List.map_cons, List.map_nil]); first | done | rfl | (simp only [List.length_drop, List.length_take]; rfl)) ?_; (with_reducible refine (money_Right.calls k _ _ y154 true _ ?side1 ?side2 A4.out).mono ?_); (case side1 => repeat (first | exact (Kd.R_reads' HO156.out).2.2 | (with_reducible refine cA ?_ _) | (with_reducible refine cD ?_ _) | (with_reducible refine c1_ ?_))); (case side2 => exact (Kd.R_reads' HO156.out).2.1); rintro e w' ⟨rfl, ⟨nd, rfl⟩⟩; refine ⟨_, rfl, ?_⟩))
  (try simp only [Act.put, List.setIfInBounds_toArray, List.set_cons_zero, List.set_cons_succ])
  go_cut [27] (fun v27 wc => ∃ (kq : Nat) (x27_5 : Bool), v27 = .bool x27_5 ∧ Aside0 (frac_Scale.j0 kq a0 a1 a2 x27_5 = some (r1, r2)) ∧ Aside0 (kq ≤ k) ∧ Aside0 (Below w.heap.size w wc))
  case first =>
    have H := HC6.out
    clear HC6
    by_cases c10 : a1 < 0
    · rw [if_pos c10] at H
      have c10b0 := decide_eq_true c10
      clear c10
      (first | rw [c10b0] | (simp only [i64_w, i32_w]; rw [c10b0]) | skip)
      have H' := AM H
      clear H
      go_wp2
      go_meet
      case rel => exact ⟨_, (true), (by first | rfl | (simp; done) | (simp [*]; done)), H', ⟨by first | omega | exact Nat.le_refl _⟩, ⟨by repeat (first | (with_reducible first | exact HB.out | apply bA | apply bD | apply b1) | exact HB.out)⟩⟩
    rw [if_neg c10] at H
    have c10b0 := decide_eq_false c10
    clear c10
    (first | rw [c10b0] | (simp only [i64_w, i32_w]; rw [c10b0]) | skip)
    by_cases c11 : a2 ≤ 0
    · rw [if_pos c11] at H
      have c11b0 := decide_eq_true c11
      clear c11
      have H' := AM H
      clear H
      go_wp2
      go_meet
      case rel => exact ⟨_, (true), (by first | rfl | (simp; done) | (simp [*]; done)), H', ⟨by first | omega | exact Nat.le_refl _⟩, ⟨by repeat (first | (with_reducible first | exact HB.out | apply bA | apply bD | apply b1) | exact HB.out)⟩⟩
    rw [if_neg c11] at H
    have c11b0 := decide_eq_false c11
    clear c11
    by_cases c12 : a1 > 1048576
    · rw [if_pos c12] at H
      have c12b0 : decide (1048576 < a1) = true := decide_eq_true c12
      clear c12
      have H' := AM H
      clear H
      go_wp2
      go_meet
      case rel => exact ⟨_, (true), (by first | rfl | (simp; done) | (simp [*]; done)), H', ⟨by first | omega | exact Nat.le_refl _⟩, ⟨by repeat (first | (with_reducible first | exact HB.out | apply bA | apply bD | apply b1) | exact HB.out)⟩⟩
    rw [if_neg c12] at H
    have c12b0 : decide (1048576 < a1) = false := decide_eq_false c12
    clear c12
    have H' := AM H
    clear H
    go_wp2
    go_meet
    case rel => exact ⟨_, (decide (a2 > 1048576)), (by first | rfl | (simp; done) | (simp [*]; done)), H', ⟨by first | omega | exact Nat.le_refl _⟩, ⟨by repeat (first | (with_reducible first | exact HB.out | apply bA | apply bD | apply b1) | exact HB.out)⟩⟩
  case rest =>
    clear HC6
    obtain ⟨kq, x27_5, rfl, HA, HJ5, HB⟩ := hcut
    cases kq with
    | zero => exact absurd HA.out (by simp [frac_Scale.j0])
    | succ kj5 =>
      have H := HA.out
      clear HA
      simp only [frac_Scale.j0] at H
      by_cases c13 : x27_5 = true
      · subst c13
        have H1 : (some (0, 1)) = some (r1, r2) := by rw [if_pos rfl] at H; exact H
        clear H
        have H := H1
        clear H1
        simp only [Option.some.injEq, Prod.mk.injEq] at H
        obtain ⟨rfl, rfl⟩ := H
        go_wp2
        go_ret2
        exact ⟨by first | rfl | (simp [errW_none, errW_some] <;> rfl) | (simp [*, errW_none, errW_some] <;> rfl), by repeat (first | (with_reducible first | exact HB.out | apply bA | apply bD | apply b1) | exact HB.out)⟩
      replace c13 := Bool.eq_false_iff.mpr c13
      subst c13
      have H1 : ((frac_floor.f (wrap64 (a0 * a1)) a2).bind fun bt158 => ((money_Right.f kj5 (([bt158.1] : List Int))).bind fun t163 => (if t163 = true then (some (bt158.1, 0)) else (some (0, 10))))) = some (r1, r2) := by rw [if_neg (show ¬ (false = true) by decide)] at H; exact H
      clear H
      have H := H1
      clear H1
      replace H := Option.bind_eq_some_iff.mp H
      obtain ⟨⟨t158, t159⟩, A140, H⟩ := H
      replace H : ((money_Right.f kj5 (([t158] : List Int))).bind fun t163 => (if t163 = true then (some (t158, 0)) else (some (0, 10)))) = some (r1, r2) := H
      have A14 := AM A140
      clear A140
      obtain ⟨y160, hy160⟩ : ∃ y_ : List Int, y_ = (([t158] : List Int)) := ⟨_, rfl⟩
      replace H : ((money_Right.f kj5 y160).bind fun t163 => (if t163 = true then (some (t158, 0)) else (some (0, 10)))) = some (r1, r2) := by first | (rw [hy160]; with_reducible exact H) | (have H2_ := (Option.bind_some _ _).symm.trans H; rw [hy160]; with_reducible exact H2_) | (have H2_ := (Option.bind_some _ _).symm.trans H; with_reducible exact H2_) | with_reducible exact H | (rw [hy160]; exact H) | exact H
      have Ny160 := AM hy160
      clear hy160
      replace H := Option.bind_eq_some_iff.mp H
      obtain ⟨t163, A150, H⟩ := H
      replace H : (if t163 = true then (some (t158, 0)) else (some (0, 10))) = some (r1, r2) := H
      have A15 := AM A150
      clear A150
      by_cases c16 : t163 = true
      · subst c16
        have H1 : (some (t158, 0)) = some (r1, r2) := by rw [if_pos rfl] at H; exact H
        clear H
        have H := H1
        clear H1
        simp only [Option.some.injEq, Prod.mk.injEq] at H
        obtain ⟨rfl, rfl⟩ := H
        go_wp2_with (first | ((with_reducible refine gC (f := 40) rfl ?_); refine gL (some 33) rfl rfl Tryd.func40 (by kernel_rfl) rfl #[.int .i64 (wrap64 (a0 * a1)), .int .i64 a2] rfl (by (try simp only [List.map_toArray, List.map_cons, List.map_nil]); first | done | rfl | (simp only [List.length_drop, List.length_take]; rfl)) ?_; (with_reducible refine (frac_floor.calls (wrap64 (a0 * a1)) a2 t158 t159 _ A14.out).mono ?_); rintro e w' ⟨rfl, ⟨nd, rfl⟩⟩; refine ⟨_, rfl, ?_⟩) | ((with_reducible refine gD (N := 37) rfl ?_); refine Kd.R_lit (Kd.int .i64) _ 2 ?hg (N := 37) ?hd (xs := ([t158] : List Int)) (inner := [.int .i64 t158]) (ok := fun _ => True) (okp := fun _ => True) ?hr ?hp (fun _ hk => hk) trivial (Below.refl _ _) (Nat.le_refl _) (by simp) ?_; (case hd => rfl); (case hg => rfl); (case hr => first | (go_simp; done) | (go_simp; rfl)); (case hp => exact (Reps.one (show Kd.M (Kd.int .i64) _ _ _ t158 [.int .i64 t158] from rfl) (Reps.none _ _))); intro v161 w17 ho18 hb hg_ hnew_; clear hg_ hnew_; (first | rw [← Ny160.out] at ho18 | (simp only [Int.reduceToNat] at ho18; rw [← Ny160.out] at ho18)); have n0_ := AM (Kd.R_lower ho18 (bZ bQ)); have n1_ := AM (bT bQ hb); clear HB; have HO162 := n0_; have HB := n1_; clear n0_ n1_; clear hb ho18; obtain ⟨Ao19, co19, eo19⟩ := Kd.R_slice HO162.out; subst eo19) | ((with_reducible refine gC (f := 32) rfl ?_); refine gL (some 38) rfl rfl Tryd.func32 (by kernel_rfl) rfl #[.slice Ao19 y160.length co19] rfl (by (try simp only [List.map_toArray, List.map_cons, List.map_nil]); first | done | rfl | (simp only [List.length_drop, List.length_take]; rfl)) ?_; (with_reducible refine (money_Right.calls kj5 _ _ y160 true _ ?side1 ?side2 A15.out).mono ?_); (case side1 => repeat (first | exact (Kd.R_reads' HO162.out).2.2 | (with_reducible refine cA ?_ _) | (with_reducible refine cD ?_ _) | (with_reducible refine c1_ ?_))); (case side2 => exact (Kd.R_reads' HO162.out).2.1); rintro e w' ⟨rfl, ⟨nd, rfl⟩⟩; refine ⟨_, rfl, ?_⟩))
        go_ret2
        exact ⟨by first | rfl | (simp [errW_none, errW_some] <;> rfl) | (simp [*, errW_none, errW_some] <;> rfl), by repeat (first | (with_reducible first | exact HB.out | apply bA | apply bD | apply b1) | exact HB.out)⟩
      replace c16 := Bool.eq_false_iff.mpr c16
      subst c16
      have H1 : (some (0, 10)) = some (r1, r2) := by rw [if_neg (show ¬ (false = true) by decide)] at H; exact H
      clear H
      have H := H1
      clear H1
      simp only [Option.some.injEq, Prod.mk.injEq] at H
      obtain ⟨rfl, rfl⟩ := H
      go_wp2_with (first | ((with_reducible refine gC (f := 40) rfl ?_); refine gL (some 33) rfl rfl Tryd.func40 (by kernel_rfl) rfl #[.int .i64 (wrap64 (a0 * a1)), .int .i64 a2] rfl (by (try simp only [List.map_toArray, List.map_cons, List.map_nil]); first | done | rfl | (simp only [List.length_drop, List.length_take]; rfl)) ?_; (with_reducible refine (frac_floor.calls (wrap64 (a0 * a1)) a2 t158 t159 _ A14.out).mono ?_); rintro e w' ⟨rfl, ⟨nd, rfl⟩⟩; refine ⟨_, rfl, ?_⟩) | ((with_reducible refine gD (N := 37) rfl ?_); refine Kd.R_lit (Kd.int .i64) _ 2 ?hg (N := 37) ?hd (xs := ([t158] : List Int)) (inner := [.int .i64 t158]) (ok := fun _ => True) (okp := fun _ => True) ?hr ?hp (fun _ hk => hk) trivial (Below.refl _ _) (Nat.le_refl _) (by simp) ?_; (case hd => rfl); (case hg => rfl); (case hr => first | (go_simp; done) | (go_simp; rfl)); (case hp => exact (Reps.one (show Kd.M (Kd.int .i64) _ _ _ t158 [.int .i64 t158] from rfl) (Reps.none _ _))); intro v161 w20 ho21 hb hg_ hnew_; clear hg_ hnew_; (first | rw [← Ny160.out] at ho21 | (simp only [Int.reduceToNat] at ho21; rw [← Ny160.out] at ho21)); have n0_ := AM (Kd.R_lower ho21 (bZ bQ)); have n1_ := AM (bT bQ hb); clear HB; have HO162 := n0_; have HB := n1_; clear n0_ n1_; clear hb ho21; obtain ⟨Ao22, co22, eo22⟩ := Kd.R_slice HO162.out; subst eo22) | ((with_reducible refine gC (f := 32) rfl ?_); refine gL (some 38) rfl rfl Tryd.func32 (by kernel_rfl) rfl #[.slice Ao22 y160.length co22] rfl (by (try simp only [List.map_toArray, List.map_cons, List.map_nil]); first | done | rfl | (simp only [List.length_drop, List.length_take]; rfl)) ?_; (with_reducible refine (money_Right.calls kj5 _ _ y160 false _ ?side1 ?side2 A15.out).mono ?_); (case side1 => repeat (first | exact (Kd.R_reads' HO162.out).2.2 | (with_reducible refine cA ?_ _) | (with_reducible refine cD ?_ _) | (with_reducible refine c1_ ?_))); (case side2 => exact (Kd.R_reads' HO162.out).2.1); rintro e w' ⟨rfl, ⟨nd, rfl⟩⟩; refine ⟨_, rfl, ?_⟩))
      go_ret2
      exact ⟨by first | rfl | (simp [errW_none, errW_some] <;> rfl) | (simp [*, errW_none, errW_some] <;> rfl), by repeat (first | (with_reducible first | exact HB.out | apply bA | apply bD | apply b1) | exact HB.out)⟩
/-! ### code_Free: function 15 -/
def code_Free.j0 : Nat → Int → Int → Bool → Int → Int → Int → Int → Bool → Option (Int × Int)
  | 0, _, _, _, _, _, _, _, _ => none
  | k + 1, x1, x2, x30, x165000, x165001, x165002, x165003, x165004 => if x30 = true then (some (0, 1)) else ((frac_Scale.f k x165002 x1 x2).bind fun bt166 => (if x165001 = 2 then (some (wrap64 (-bt166.1), bt166.2)) else (some (bt166.1, bt166.2))))
def code_Free.f (k : Nat) (a0_0 : Int) (a0_1 : Int) (a0_2 : Int) (a0_3 : Int) (a0_4 : Bool) (a1 : Int) (a2 : Int) : Option (Int × Int) := (code_Check.f k a0_0 a0_1 a0_2 a0_3 a0_4).bind fun t165 => (if t165 = 0 then (if a1 < 0 then (code_Free.j0 k a1 a2 true a0_0 a0_1 a0_2 a0_3 a0_4) else (if a2 < 1 then (code_Free.j0 k a1 a2 true a0_0 a0_1 a0_2 a0_3 a0_4) else (if a1 > a2 then (code_Free.j0 k a1 a2 true a0_0 a0_1 a0_2 a0_3 a0_4) else (code_Free.j0 k a1 a2 (decide (a2 > 1048576)) a0_0 a0_1 a0_2 a0_3 a0_4)))) else (some (0, t165)))
set_option maxHeartbeats 8000000 in
set_option maxRecDepth 100000 in
theorem code_Free.calls (k : Nat) (a0_0 : Int) (a0_1 : Int) (a0_2 : Int) (a0_3 : Int) (a0_4 : Bool) (a1 : Int) (a2 : Int) (r1 : Int) (r2 : Int) (w : World) (h : code_Free.f k a0_0 a0_1 a0_2 a0_3 a0_4 a1 a2 = some (r1, r2)) :
    Calls Tryd.prog 15 #[.agg #[.int .i64 a0_0, .int .i64 a0_1, .int .i64 a0_2, .int .i64 a0_3, .bool a0_4], .int .i64 a1, .int .i64 a2] w fun e w' => e = .returned (.tuple #[.int .i64 r1, .int .i64 r2]) ∧ Below w.heap.size w w' := by
  have hu23 := Tryd.underlying23
  have HB := AM (Below.refl w.heap.size w)
  have H : ((code_Check.f k a0_0 a0_1 a0_2 a0_3 a0_4).bind fun t165 => (if t165 = 0 then (if a1 < 0 then (code_Free.j0 k a1 a2 true a0_0 a0_1 a0_2 a0_3 a0_4) else (if a2 < 1 then (code_Free.j0 k a1 a2 true a0_0 a0_1 a0_2 a0_3 a0_4) else (if a1 > a2 then (code_Free.j0 k a1 a2 true a0_0 a0_1 a0_2 a0_3 a0_4) else (code_Free.j0 k a1 a2 (decide (a2 > 1048576)) a0_0 a0_1 a0_2 a0_3 a0_4)))) else (some (0, t165)))) = some (r1, r2) := h
  clear h
  replace H := Option.bind_eq_some_iff.mp H
  obtain ⟨t165, A40, H⟩ := H
  replace H : (if t165 = 0 then (if a1 < 0 then (code_Free.j0 k a1 a2 true a0_0 a0_1 a0_2 a0_3 a0_4) else (if a2 < 1 then (code_Free.j0 k a1 a2 true a0_0 a0_1 a0_2 a0_3 a0_4) else (if a1 > a2 then (code_Free.j0 k a1 a2 true a0_0 a0_1 a0_2 a0_3 a0_4) else (code_Free.j0 k a1 a2 (decide (a2 > 1048576)) a0_0 a0_1 a0_2 a0_3 a0_4)))) else (some (0, t165))) = some (r1, r2) := H
  have A4 := AM A40
  clear A40
  by_cases c5 : t165 = 0
  rotate_left
  · rw [if_neg c5] at H
    have c5b0 : (t165 == 0) = false := beq_eq_false_iff_ne.mpr c5
    have c5b1 : (t165 != 0) = true := bne_iff_ne.mpr c5
    simp only [Option.some.injEq, Prod.mk.injEq] at H
    obtain ⟨rfl, rfl⟩ := H
    go_enter Tryd.func15, Tryd.ntmps15
    go_wp2_with (first | ((with_reducible refine gD (N := 3) rfl ?_); refine bE ?hg (N := 3) ?hd (cs := #[.int .i64 a0_0, .int .i64 a0_1, .int .i64 a0_2, .int .i64 a0_3, .bool a0_4]) (t := 23) ?hr ?_; (case hd => rfl); (case hg => rfl); (case hr => first | (go_simp; done) | (go_simp; rfl)); intro gb164 hg w22 hbox hb; have n0_ := AM (bT bQ hb); have n1_ := AM (hbox); have n2_ := AM ((by rw [hg]; exact (bZ bQ) : w.heap.size ≤ gb164)); have n3_ := AM ((by rw [hg]; exact (bZ bQ) : w.heap.size ≤ gb164)); clear HB; have HB := n0_; have BK164 := n1_; have GW164 := n2_; have GE164 := n3_; clear n0_ n1_ n2_ n3_; clear hb hbox hg; obtain ⟨_, _, _, _, _, _, _, _, _, _⟩ := bX5 BK164.out) | ((with_reducible refine gC (f := 12) rfl ?_); refine gL (some 12) rfl rfl Tryd.func12 (by kernel_rfl) rfl #[.agg #[.int .i64 a0_0, .int .i64 a0_1, .int .i64 a0_2, .int .i64 a0_3, .bool a0_4]] rfl (by (try simp only [List.map_toArray, List.map_cons, List.map_nil]); first | done | rfl | (simp only [List.length_drop, List.length_take]; rfl)) ?_; (with_reducible refine (code_Check.calls k a0_0 a0_1 a0_2 a0_3 a0_4 t165 _ A4.out).mono ?_); rintro e w24 ⟨rfl, hb⟩; refine ⟨_, rfl, ?_⟩; have n0_ := AM (kB (g := gb164) (o := .cells #[.int .i64 a0_0, .int .i64 a0_1, .int .i64 a0_2, .int .i64 a0_3, .bool a0_4] 23 (0, 0)) (kW BK164) hb); have n1_ := AM (bT bQ hb); clear BK164; clear HB; have BK164 := n0_; have HB := n1_; clear n0_ n1_; (try clear hb); (try clear hb2); (try clear hk); (try clear hi)))
    go_ret2
    exact ⟨by first | rfl | (simp [errW_none, errW_some] <;> rfl) | (simp [*, errW_none, errW_some] <;> rfl), by repeat (first | (with_reducible first | exact HB.out | apply bA | apply bD | apply b1 | refine bS ?_ GE164.out) | exact HB.out)⟩

  rw [if_pos c5] at H
  have c5b0 : (t165 == 0) = true := beq_iff_eq.mpr c5
  have c5b1 : (t165 != 0) = false := bne_eq_false_iff_eq.mpr c5
  clear c5
  have HC6 := AM H
  clear H
  go_enter Tryd.func15, Tryd.ntmps15
  go_upto_region 4 with (first | ((with_reducible refine gD (N := 3) rfl ?_); refine bE ?hg (N := 3) ?hd (cs := #[.int .i64 a0_0, .int .i64 a0_1, .int .i64 a0_2, .int .i64 a0_3, .bool a0_4]) (t := 23) ?hr ?_; (case hd => rfl); (case hg => rfl); (case hr => first | (go_simp; done) | (go_simp; rfl)); intro gb164 hg w7 hbox hb; have n0_ := AM (bT bQ hb); have n1_ := AM (hbox); have n2_ := AM ((by rw [hg]; exact (bZ bQ) : w.heap.size ≤ gb164)); have n3_ := AM ((by rw [hg]; exact (bZ bQ) : w.heap.size ≤ gb164)); clear HB; have HB := n0_; have BK164 := n1_; have GW164 := n2_; have GE164 := n3_; clear n0_ n1_ n2_ n3_; clear hb hbox hg; obtain ⟨_, _, _, _, _, _, _, _, _, _⟩ := bX5 BK164.out) | ((with_reducible refine gC (f := 12) rfl ?_); refine gL (some 12) rfl rfl Tryd.func12 (by kernel_rfl) rfl #[.agg #[.int .i64 a0_0, .int .i64 a0_1, .int .i64 a0_2, .int .i64 a0_3, .bool a0_4]] rfl (by (try simp only [List.map_toArray, List.map_cons, List.map_nil]); first | done | rfl | (simp only [List.length_drop, List.length_take]; rfl)) ?_; (with_reducible refine (code_Check.calls k a0_0 a0_1 a0_2 a0_3 a0_4 t165 _ A4.out).mono ?_); rintro e w9 ⟨rfl, hb⟩; refine ⟨_, rfl, ?_⟩; have n0_ := AM (kB (g := gb164) (o := .cells #[.int .i64 a0_0, .int .i64 a0_1, .int .i64 a0_2, .int .i64 a0_3, .bool a0_4] 23 (0, 0)) (kW BK164) hb); have n1_ := AM (bT bQ hb); clear BK164; clear HB; have BK164 := n0_; have HB := n1_; clear n0_ n1_; (try clear hb); (try clear hb2); (try clear hk); (try clear hi)))
  (try simp only [Act.put, List.setIfInBounds_toArray, List.set_cons_zero, List.set_cons_succ])
  go_cut [30] (fun v30 wc => ∃ (kq : Nat) (x30_5 : Bool), v30 = .bool x30_5 ∧ Aside0 (code_Free.j0 kq a1 a2 x30_5 a0_0 a0_1 a0_2 a0_3 a0_4 = some (r1, r2)) ∧ Aside0 (kq ≤ k) ∧ Aside0 (wc.heap[gb164]? = some (.cells #[.int .i64 a0_0, .int .i64 a0_1, .int .i64 a0_2, .int .i64 a0_3, .bool a0_4] 23 (0, 0))) ∧ Aside0 (Below w.heap.size w wc))
  case first =>
    have H := HC6.out
    clear HC6
    by_cases c10 : a1 < 0
    · rw [if_pos c10] at H
      have c10b0 := decide_eq_true c10
      clear c10
      (first | rw [c10b0] | (simp only [i64_w, i32_w]; rw [c10b0]) | skip)
      have H' := AM H
      clear H
      go_wp2
      go_meet
      case rel => exact ⟨_, (true), (by first | rfl | (simp; done) | (simp [*]; done)), H', ⟨by first | omega | exact Nat.le_refl _⟩, ⟨by (with_reducible repeat (first | refine kD ?_ _ | refine k1_ ?_ | refine kA ?_ _)); exact BK164.out⟩, ⟨by repeat (first | (with_reducible first | exact HB.out | apply bA | apply bD | apply b1 | refine bS ?_ GE164.out) | exact HB.out)⟩⟩
    rw [if_neg c10] at H
    have c10b0 := decide_eq_false c10
    clear c10
    (first | rw [c10b0] | (simp only [i64_w, i32_w]; rw [c10b0]) | skip)
    by_cases c11 : a2 < 1
    · rw [if_pos c11] at H
      have c11b0 := decide_eq_true c11
      clear c11
      have H' := AM H
      clear H
      go_wp2
      go_meet
      case rel => exact ⟨_, (true), (by first | rfl | (simp; done) | (simp [*]; done)), H', ⟨by first | omega | exact Nat.le_refl _⟩, ⟨by (with_reducible repeat (first | refine kD ?_ _ | refine k1_ ?_ | refine kA ?_ _)); exact BK164.out⟩, ⟨by repeat (first | (with_reducible first | exact HB.out | apply bA | apply bD | apply b1 | refine bS ?_ GE164.out) | exact HB.out)⟩⟩
    rw [if_neg c11] at H
    have c11b0 := decide_eq_false c11
    clear c11
    by_cases c12 : a1 > a2
    · rw [if_pos c12] at H
      have c12b0 : decide (a2 < a1) = true := decide_eq_true c12
      clear c12
      have H' := AM H
      clear H
      go_wp2
      go_meet
      case rel => exact ⟨_, (true), (by first | rfl | (simp; done) | (simp [*]; done)), H', ⟨by first | omega | exact Nat.le_refl _⟩, ⟨by (with_reducible repeat (first | refine kD ?_ _ | refine k1_ ?_ | refine kA ?_ _)); exact BK164.out⟩, ⟨by repeat (first | (with_reducible first | exact HB.out | apply bA | apply bD | apply b1 | refine bS ?_ GE164.out) | exact HB.out)⟩⟩
    rw [if_neg c12] at H
    have c12b0 : decide (a2 < a1) = false := decide_eq_false c12
    clear c12
    have H' := AM H
    clear H
    go_wp2
    go_meet
    case rel => exact ⟨_, (decide (a2 > 1048576)), (by first | rfl | (simp; done) | (simp [*]; done)), H', ⟨by first | omega | exact Nat.le_refl _⟩, ⟨by (with_reducible repeat (first | refine kD ?_ _ | refine k1_ ?_ | refine kA ?_ _)); exact BK164.out⟩, ⟨by repeat (first | (with_reducible first | exact HB.out | apply bA | apply bD | apply b1 | refine bS ?_ GE164.out) | exact HB.out)⟩⟩
  case rest =>
    clear HC6
    obtain ⟨kq, x30_5, rfl, HA, HJ5, BK164, HB⟩ := hcut
    cases kq with
    | zero => exact absurd HA.out (by simp [code_Free.j0])
    | succ kj5 =>
      have H := HA.out
      clear HA
      simp only [code_Free.j0] at H
      by_cases c13 : x30_5 = true
      · subst c13
        have H1 : (some (0, 1)) = some (r1, r2) := by rw [if_pos rfl] at H; exact H
        clear H
        have H := H1
        clear H1
        simp only [Option.some.injEq, Prod.mk.injEq] at H
        obtain ⟨rfl, rfl⟩ := H
        go_wp2
        go_ret2
        exact ⟨by first | rfl | (simp [errW_none, errW_some] <;> rfl) | (simp [*, errW_none, errW_some] <;> rfl), by repeat (first | (with_reducible first | exact HB.out | apply bA | apply bD | apply b1 | refine bS ?_ GE164.out) | exact HB.out)⟩
      replace c13 := Bool.eq_false_iff.mpr c13
      subst c13
      have H1 : ((frac_Scale.f kj5 a0_2 a1 a2).bind fun bt166 => (if a0_1 = 2 then (some (wrap64 (-bt166.1), bt166.2)) else (some (bt166.1, bt166.2)))) = some (r1, r2) := by rw [if_neg (show ¬ (false = true) by decide)] at H; exact H
      clear H
      have H := H1
      clear H1
      replace H := Option.bind_eq_some_iff.mp H
      obtain ⟨⟨t166, t167⟩, A140, H⟩ := H
      replace H : (if a0_1 = 2 then (some (wrap64 (-t166), t167)) else (some (t166, t167))) = some (r1, r2) := H
      have A14 := AM A140
      clear A140
      by_cases c15 : a0_1 = 2
      rotate_left
      · rw [if_neg c15] at H
        have c15b0 : (a0_1 == 2) = false := beq_eq_false_iff_ne.mpr c15
        have c15b1 : (a0_1 != 2) = true := bne_iff_ne.mpr c15
        simp only [Option.some.injEq, Prod.mk.injEq] at H
        obtain ⟨rfl, rfl⟩ := H
        obtain ⟨_, _, _, _, _, _, _, _, _, _⟩ := bX5 BK164.out
        go_wp2_with (first | ((with_reducible refine gC (f := 31) rfl ?_); refine gL (some 36) rfl rfl Tryd.func31 (by kernel_rfl) rfl #[.int .i64 a0_2, .int .i64 a1, .int .i64 a2] rfl (by (try simp only [List.map_toArray, List.map_cons, List.map_nil]); first | done | rfl | (simp only [List.length_drop, List.length_take]; rfl)) ?_; (with_reducible refine (frac_Scale.calls kj5 a0_2 a1 a2 t166 t167 _ A14.out).mono ?_); rintro e w20 ⟨rfl, hb⟩; refine ⟨_, rfl, ?_⟩; have n0_ := AM (kB (g := gb164) (o := .cells #[.int .i64 a0_0, .int .i64 a0_1, .int .i64 a0_2, .int .i64 a0_3, .bool a0_4] 23 (0, 0)) (kW BK164) hb); have n1_ := AM (bT bQ hb); clear BK164; clear HB; have BK164 := n0_; have HB := n1_; clear n0_ n1_; (try clear hb); (try clear hb2); (try clear hk); (try clear hi); obtain ⟨_, _, _, _, _, _, _, _, _, _⟩ := bX5 BK164.out))
        go_ret2
        exact ⟨by first | rfl | (simp [errW_none, errW_some] <;> rfl) | (simp [*, errW_none, errW_some] <;> rfl), by repeat (first | (with_reducible first | exact HB.out | apply bA | apply bD | apply b1 | refine bS ?_ GE164.out) | exact HB.out)⟩
      rw [if_pos c15] at H
      have c15b0 : (a0_1 == 2) = true := beq_iff_eq.mpr c15
      have c15b1 : (a0_1 != 2) = false := bne_eq_false_iff_eq.mpr c15
      clear c15
      simp only [Option.some.injEq, Prod.mk.injEq] at H
      obtain ⟨rfl, rfl⟩ := H
      obtain ⟨_, _, _, _, _, _, _, _, _, _⟩ := bX5 BK164.out
      go_wp2_with (first | ((with_reducible refine gC (f := 31) rfl ?_); refine gL (some 36) rfl rfl Tryd.func31 (by kernel_rfl) rfl #[.int .i64 a0_2, .int .i64 a1, .int .i64 a2] rfl (by (try simp only [List.map_toArray, List.map_cons, List.map_nil]); first | done | rfl | (simp only [List.length_drop, List.length_take]; rfl)) ?_; (with_reducible refine (frac_Scale.calls kj5 a0_2 a1 a2 t166 t167 _ A14.out).mono ?_); rintro e w17 ⟨rfl, hb⟩; refine ⟨_, rfl, ?_⟩; have n0_ := AM (kB (g := gb164) (o := .cells #[.int .i64 a0_0, .int .i64 a0_1, .int .i64 a0_2, .int .i64 a0_3, .bool a0_4] 23 (0, 0)) (kW BK164) hb); have n1_ := AM (bT bQ hb); clear BK164; clear HB; have BK164 := n0_; have HB := n1_; clear n0_ n1_; (try clear hb); (try clear hb2); (try clear hk); (try clear hi); obtain ⟨_, _, _, _, _, _, _, _, _, _⟩ := bX5 BK164.out))
      go_ret2
      exact ⟨by first | rfl | (simp [errW_none, errW_some] <;> rfl) | (simp [*, errW_none, errW_some] <;> rfl), by repeat (first | (with_reducible first | exact HB.out | apply bA | apply bD | apply b1 | refine bS ?_ GE164.out) | exact HB.out)⟩
/-! ### money_check: function 41 -/
def money_check.f (k : Nat) (a0 : Int) : Option (Int × Int) := (money_Right.f k (([a0] : List Int))).bind fun t171 => (if t171 = true then (some (a0, 0)) else (some (0, 10)))
set_option maxHeartbeats 8000000 in
set_option maxRecDepth 100000 in
theorem money_check.calls (k : Nat) (a0 : Int) (r1 : Int) (r2 : Int) (w : World) (h : money_check.f k a0 = some (r1, r2)) :
    Calls Tryd.prog 41 #[.int .i64 a0] w fun e w' => e = .returned (.tuple #[.int .i64 r1, .int .i64 r2]) ∧ Below w.heap.size w w' := by
  have HB := AM (Below.refl w.heap.size w)
  have H : ((money_Right.f k (([a0] : List Int))).bind fun t171 => (if t171 = true then (some (a0, 0)) else (some (0, 10)))) = some (r1, r2) := h
  clear h
  obtain ⟨y168, hy168⟩ : ∃ y_ : List Int, y_ = (([a0] : List Int)) := ⟨_, rfl⟩
  replace H : ((money_Right.f k y168).bind fun t171 => (if t171 = true then (some (a0, 0)) else (some (0, 10)))) = some (r1, r2) := by first | (rw [hy168]; with_reducible exact H) | (have H2_ := (Option.bind_some _ _).symm.trans H; rw [hy168]; with_reducible exact H2_) | (have H2_ := (Option.bind_some _ _).symm.trans H; with_reducible exact H2_) | with_reducible exact H | (rw [hy168]; exact H) | exact H
  have Ny168 := AM hy168
  clear hy168
  replace H := Option.bind_eq_some_iff.mp H
  obtain ⟨t171, A20, H⟩ := H
  replace H : (if t171 = true then (some (a0, 0)) else (some (0, 10))) = some (r1, r2) := H
  have A2 := AM A20
  clear A20
  by_cases c3 : t171 = true
  · subst c3
    have H1 : (some (a0, 0)) = some (r1, r2) := by rw [if_pos rfl] at H; exact H
    clear H
    have H := H1
    clear H1
    simp only [Option.some.injEq, Prod.mk.injEq] at H
    obtain ⟨rfl, rfl⟩ := H
    go_enter Tryd.func41, Tryd.ntmps41
    go_wp2_with (first | ((with_reducible refine gD (N := 5) rfl ?_); refine Kd.R_lit (Kd.int .i64) _ 2 ?hg (N := 5) ?hd (xs := ([a0] : List Int)) (inner := [.int .i64 a0]) (ok := fun _ => True) (okp := fun _ => True) ?hr ?hp (fun _ hk => hk) trivial (Below.refl _ _) (Nat.le_refl _) (by simp) ?_; (case hd => rfl); (case hg => rfl); (case hr => first | (go_simp; done) | (go_simp; rfl)); (case hp => exact (Reps.one (show Kd.M (Kd.int .i64) _ _ _ a0 [.int .i64 a0] from rfl) (Reps.none _ _))); intro v169 w4 ho5 hb hg_ hnew_; clear hg_ hnew_; (first | rw [← Ny168.out] at ho5 | (simp only [Int.reduceToNat] at ho5; rw [← Ny168.out] at ho5)); have n0_ := AM (Kd.R_lower ho5 (bZ bQ)); have n1_ := AM (bT bQ hb); clear HB; have HO170 := n0_; have HB := n1_; clear n0_ n1_; clear hb ho5; obtain ⟨Ao6, co6, eo6⟩ := Kd.R_slice HO170.out; subst eo6) | ((with_reducible refine gC (f := 32) rfl ?_); refine gL (some 6) rfl rfl Tryd.func32 (by kernel_rfl) rfl #[.slice Ao6 y168.length co6] rfl (by (try simp only [List.map_toArray, List.map_cons, List.map_nil]); first | done | rfl | (simp only [List.length_drop, List.length_take]; rfl)) ?_; (with_reducible refine (money_Right.calls k _ _ y168 true _ ?side1 ?side2 A2.out).mono ?_); (case side1 => repeat (first | exact (Kd.R_reads' HO170.out).2.2 | (with_reducible refine cA ?_ _) | (with_reducible refine cD ?_ _) | (with_reducible refine c1_ ?_))); (case side2 => exact (Kd.R_reads' HO170.out).2.1); rintro e w' ⟨rfl, ⟨nd, rfl⟩⟩; refine ⟨_, rfl, ?_⟩))
    go_ret2
    exact ⟨by first | rfl | (simp [errW_none, errW_some] <;> rfl) | (simp [*, errW_none, errW_some] <;> rfl), by repeat (first | (with_reducible first | exact HB.out | apply bA | apply bD | apply b1) | exact HB.out)⟩
  replace c3 := Bool.eq_false_iff.mpr c3
  subst c3
  have H1 : (some (0, 10)) = some (r1, r2) := by rw [if_neg (show ¬ (false = true) by decide)] at H; exact H
  clear H
  have H := H1
  clear H1
  simp only [Option.some.injEq, Prod.mk.injEq] at H
  obtain ⟨rfl, rfl⟩ := H
  go_enter Tryd.func41, Tryd.ntmps41
  go_wp2_with (first | ((with_reducible refine gD (N := 5) rfl ?_); refine Kd.R_lit (Kd.int .i64) _ 2 ?hg (N := 5) ?hd (xs := ([a0] : List Int)) (inner := [.int .i64 a0]) (ok := fun _ => True) (okp := fun _ => True) ?hr ?hp (fun _ hk => hk) trivial (Below.refl _ _) (Nat.le_refl _) (by simp) ?_; (case hd => rfl); (case hg => rfl); (case hr => first | (go_simp; done) | (go_simp; rfl)); (case hp => exact (Reps.one (show Kd.M (Kd.int .i64) _ _ _ a0 [.int .i64 a0] from rfl) (Reps.none _ _))); intro v169 w7 ho8 hb hg_ hnew_; clear hg_ hnew_; (first | rw [← Ny168.out] at ho8 | (simp only [Int.reduceToNat] at ho8; rw [← Ny168.out] at ho8)); have n0_ := AM (Kd.R_lower ho8 (bZ bQ)); have n1_ := AM (bT bQ hb); clear HB; have HO170 := n0_; have HB := n1_; clear n0_ n1_; clear hb ho8; obtain ⟨Ao9, co9, eo9⟩ := Kd.R_slice HO170.out; subst eo9) | ((with_reducible refine gC (f := 32) rfl ?_); refine gL (some 6) rfl rfl Tryd.func32 (by kernel_rfl) rfl #[.slice Ao9 y168.length co9] rfl (by (try simp only [List.map_toArray, List.map_cons, List.map_nil]); first | done | rfl | (simp only [List.length_drop, List.length_take]; rfl)) ?_; (with_reducible refine (money_Right.calls k _ _ y168 false _ ?side1 ?side2 A2.out).mono ?_); (case side1 => repeat (first | exact (Kd.R_reads' HO170.out).2.2 | (with_reducible refine cA ?_ _) | (with_reducible refine cD ?_ _) | (with_reducible refine c1_ ?_))); (case side2 => exact (Kd.R_reads' HO170.out).2.1); rintro e w' ⟨rfl, ⟨nd, rfl⟩⟩; refine ⟨_, rfl, ?_⟩))
  go_ret2
  exact ⟨by first | rfl | (simp [errW_none, errW_some] <;> rfl) | (simp [*, errW_none, errW_some] <;> rfl), by repeat (first | (with_reducible first | exact HB.out | apply bA | apply bD | apply b1) | exact HB.out)⟩

/-! ### money_Sub: function 33 -/
def money_Sub.f (k : Nat) (a0 : Int) (a1 : Int) : Option (Int × Int) := (money_Right.f k (([a0, a1] : List Int))).bind fun t175 => (if t175 = true then ((money_check.f k (wrap64 (a0 - a1))).bind fun bt176 => (some (bt176.1, bt176.2))) else (some (0, 10)))
set_option maxHeartbeats 8000000 in
set_option maxRecDepth 100000 in
theorem money_Sub.calls (k : Nat) (a0 : Int) (a1 : Int) (r1 : Int) (r2 : Int) (w : World) (h : money_Sub.f k a0 a1 = some (r1, r2)) :
    Calls Tryd.prog 33 #[.int .i64 a0, .int .i64 a1] w fun e w' => e = .returned (.tuple #[.int .i64 r1, .int .i64 r2]) ∧ Below w.heap.size w w' := by
  have HB := AM (Below.refl w.heap.size w)
  have H : ((money_Right.f k (([a0, a1] : List Int))).bind fun t175 => (if t175 = true then ((money_check.f k (wrap64 (a0 - a1))).bind fun bt176 => (some (bt176.1, bt176.2))) else (some (0, 10)))) = some (r1, r2) := h
  clear h
  obtain ⟨y172, hy172⟩ : ∃ y_ : List Int, y_ = (([a0, a1] : List Int)) := ⟨_, rfl⟩
  replace H : ((money_Right.f k y172).bind fun t175 => (if t175 = true then ((money_check.f k (wrap64 (a0 - a1))).bind fun bt176 => (some (bt176.1, bt176.2))) else (some (0, 10)))) = some (r1, r2) := by first | (rw [hy172]; with_reducible exact H) | (have H2_ := (Option.bind_some _ _).symm.trans H; rw [hy172]; with_reducible exact H2_) | (have H2_ := (Option.bind_some _ _).symm.trans H; with_reducible exact H2_) | with_reducible exact H | (rw [hy172]; exact H) | exact H
  have Ny172 := AM hy172
  clear hy172
  replace H := Option.bind_eq_some_iff.mp H
  obtain ⟨t175, A30, H⟩ := H
  replace H : (if t175 = true then ((money_check.f k (wrap64 (a0 - a1))).bind fun bt176 => (some (bt176.1, bt176.2))) else (some (0, 10))) = some (r1, r2) := H
  have A3 := AM A30
  clear A30
  by_cases c4 : t175 = true
  rotate_left
  · replace c4 := Bool.eq_false_iff.mpr c4
    subst c4
    have H1 : (some (0, 10)) = some (r1, r2) := by rw [if_neg (show ¬ (false = true) by decide)] at H; exact H
    clear H
    have H := H1
    clear H1
    simp only [Option.some.injEq, Prod.mk.injEq] at H
    obtain ⟨rfl, rfl⟩ := H
    go_enter Tryd.func33, Tryd.ntmps33
    go_wp2_with (first | ((with_reducible refine gD (N := 8) rfl ?_); refine Kd.R_lit (Kd.int .i64) _ 2 ?hg (N := 8) ?hd (xs := ([a0, a1] : List Int)) (inner := [.int .i64 a0, .int .i64 a1]) (ok := fun _ => True) (okp := fun _ => True) ?hr ?hp (fun _ hk => hk) trivial (Below.refl _ _) (Nat.le_refl _) (by simp) ?_; (case hd => rfl); (case hg => rfl); (case hr => first | (go_simp; done) | (go_simp; rfl)); (case hp => exact (Reps.one (show Kd.M (Kd.int .i64) _ _ _ a0 [.int .i64 a0] from rfl) (Reps.one (show Kd.M (Kd.int .i64) _ _ _ a1 [.int .i64 a1] from rfl) (Reps.none _ _)))); intro v173 w10 ho11 hb hg_ hnew_; clear hg_ hnew_; (first | rw [← Ny172.out] at ho11 | (simp only [Int.reduceToNat] at ho11; rw [← Ny172.out] at ho11)); have n0_ := AM (Kd.R_lower ho11 (bZ bQ)); have n1_ := AM (bT bQ hb); clear HB; have HO174 := n0_; have HB := n1_; clear n0_ n1_; clear hb ho11; obtain ⟨Ao12, co12, eo12⟩ := Kd.R_slice HO174.out; subst eo12) | ((with_reducible refine gC (f := 32) rfl ?_); refine gL (some 9) rfl rfl Tryd.func32 (by kernel_rfl) rfl #[.slice Ao12 y172.length co12] rfl (by (try simp only [List.map_toArray, List.map_cons, List.map_nil]); first | done | rfl | (simp only [List.length_drop, List.length_take]; rfl)) ?_; (with_reducible refine (money_Right.calls k _ _ y172 false _ ?side1 ?side2 A3.out).mono ?_); (case side1 => repeat (first | exact (Kd.R_reads' HO174.out).2.2 | (with_reducible refine cA ?_ _) | (with_reducible refine cD ?_ _) | (with_reducible refine c1_ ?_))); (case side2 => exact (Kd.R_reads' HO174.out).2.1); rintro e w' ⟨rfl, ⟨nd, rfl⟩⟩; refine ⟨_, rfl, ?_⟩))
    go_ret2
    exact ⟨by first | rfl | (simp [errW_none, errW_some] <;> rfl) | (simp [*, errW_none, errW_some] <;> rfl), by repeat (first | (with_reducible first | exact HB.out | apply bA | apply bD | apply b1) | exact HB.out)⟩

  subst c4
  have H1 : ((money_check.f k (wrap64 (a0 - a1))).bind fun bt176 => (some (bt176.1, bt176.2))) = some (r1, r2) := by rw [if_pos rfl] at H; exact H
  clear H
  have H := H1
  clear H1
  replace H := Option.bind_eq_some_iff.mp H
  obtain ⟨⟨t176, t177⟩, A50, H⟩ := H
  replace H : (some (t176, t177)) = some (r1, r2) := H
  have A5 := AM A50
  clear A50
  simp only [Option.some.injEq, Prod.mk.injEq] at H
  obtain ⟨rfl, rfl⟩ := H
  go_enter Tryd.func33, Tryd.ntmps33
  go_wp2_with (first | ((with_reducible refine gD (N := 8) rfl ?_); refine Kd.R_lit (Kd.int .i64) _ 2 ?hg (N := 8) ?hd (xs := ([a0, a1] : List Int)) (inner := [.int .i64 a0, .int .i64 a1]) (ok := fun _ => True) (okp := fun _ => True) ?hr ?hp (fun _ hk => hk) trivial (Below.refl _ _) (Nat.le_refl _) (by simp) ?_; (case hd => rfl); (case hg => rfl); (case hr => first | (go_simp; done) | (go_simp; rfl)); (case hp => exact (Reps.one (show Kd.M (Kd.int .i64) _ _ _ a0 [.int .i64 a0] from rfl) (Reps.one (show Kd.M (Kd.int .i64) _ _ _ a1 [.int .i64 a1] from rfl) (Reps.none _ _)))); intro v173 w6 ho7 hb hg_ hnew_; clear hg_ hnew_; (first | rw [← Ny172.out] at ho7 | (simp only [Int.reduceToNat] at ho7; rw [← Ny172.out] at ho7)); have n0_ := AM (Kd.R_lower ho7 (bZ bQ)); have n1_ := AM (bT bQ hb); clear HB; have HO174 := n0_; have HB := n1_; clear n0_ n1_; clear hb ho7; obtain ⟨Ao8, co8, eo8⟩ := Kd.R_slice HO174.out; subst eo8) | ((with_reducible refine gC (f := 32) rfl ?_); refine gL (some 9) rfl rfl Tryd.func32 (by kernel_rfl) rfl #[.slice Ao8 y172.length co8] rfl (by (try simp only [List.map_toArray, List.map_cons, List.map_nil]); first | done | rfl | (simp only [List.length_drop, List.length_take]; rfl)) ?_; (with_reducible refine (money_Right.calls k _ _ y172 true _ ?side1 ?side2 A3.out).mono ?_); (case side1 => repeat (first | exact (Kd.R_reads' HO174.out).2.2 | (with_reducible refine cA ?_ _) | (with_reducible refine cD ?_ _) | (with_reducible refine c1_ ?_))); (case side2 => exact (Kd.R_reads' HO174.out).2.1); rintro e w' ⟨rfl, ⟨nd, rfl⟩⟩; refine ⟨_, rfl, ?_⟩) | ((with_reducible refine gC (f := 41) rfl ?_); refine gL (some 14) rfl rfl Tryd.func41 (by kernel_rfl) rfl #[.int .i64 (wrap64 (a0 - a1))] rfl (by (try simp only [List.map_toArray, List.map_cons, List.map_nil]); first | done | rfl | (simp only [List.length_drop, List.length_take]; rfl)) ?_; (with_reducible refine (money_check.calls k (wrap64 (a0 - a1)) t176 t177 _ A5.out).mono ?_); rintro e w9 ⟨rfl, hb⟩; refine ⟨_, rfl, ?_⟩; have n0_ := AM (Kd.R_below (by (with_reducible repeat (first | apply rA | apply rD | apply r1x)); exact HO174.out) hb); have n1_ := AM (bT bQ hb); clear HO174; clear HB; have HO174 := n0_; have HB := n1_; clear n0_ n1_; (try clear hb); (try clear hb2); (try clear hk); (try clear hi)))
  go_ret2
  exact ⟨by first | rfl | (simp [errW_none, errW_some] <;> rfl) | (simp [*, errW_none, errW_some] <;> rfl), by repeat (first | (with_reducible first | exact HB.out | apply bA | apply bD | apply b1) | exact HB.out)⟩
/-! ### code_Charge: function 17 -/
def code_Charge.f (k : Nat) (a0_0 : Int) (a0_1 : Int) (a0_2 : Int) (a0_3 : Int) (a0_4 : Bool) (a1 : Int) (a2 : Int) (a3 : Int) : Option (Int × Int) := (code_Free.f k a0_0 a0_1 a0_2 a0_3 a0_4 a2 a3).bind fun bt179 => (if bt179.2 = 0 then (if a0_1 = 4 then ((money_Right.f k (([a1] : List Int))).bind fun t184 => (if t184 = true then (some (0, 0)) else (some (0, 10)))) else ((money_Sub.f k a1 bt179.1).bind fun bt185 => (some (mx 0 bt185.1, bt185.2)))) else (some (0, bt179.2)))
set_option maxHeartbeats 8000000 in
set_option maxRecDepth 100000 in
theorem code_Charge.calls (k : Nat) (a0_0 : Int) (a0_1 : Int) (a0_2 : Int) (a0_3 : Int) (a0_4 : Bool) (a1 : Int) (a2 : Int) (a3 : Int) (r1 : Int) (r2 : Int) (w : World) (h : code_Charge.f k a0_0 a0_1 a0_2 a0_3 a0_4 a1 a2 a3 = some (r1, r2)) :
    Calls Tryd.prog 17 #[.agg #[.int .i64 a0_0, .int .i64 a0_1, .int .i64 a0_2, .int .i64 a0_3, .bool a0_4], .int .i64 a1, .int .i64 a2, .int .i64 a3] w fun e w' => e = .returned (.tuple #[.int .i64 r1, .int .i64 r2]) ∧ Below w.heap.size w w' := by
  have hu23 := Tryd.underlying23
  have HB := AM (Below.refl w.heap.size w)
  have H : ((code_Free.f k a0_0 a0_1 a0_2 a0_3 a0_4 a2 a3).bind fun bt179 => (if bt179.2 = 0 then (if a0_1 = 4 then ((money_Right.f k (([a1] : List Int))).bind fun t184 => (if t184 = true then (some (0, 0)) else (some (0, 10)))) else ((money_Sub.f k a1 bt179.1).bind fun bt185 => (some (mx 0 bt185.1, bt185.2)))) else (some (0, bt179.2)))) = some (r1, r2) := h
  clear h
  replace H := Option.bind_eq_some_iff.mp H
  obtain ⟨⟨t179, t180⟩, A50, H⟩ := H
  replace H : (if t180 = 0 then (if a0_1 = 4 then ((money_Right.f k (([a1] : List Int))).bind fun t184 => (if t184 = true then (some (0, 0)) else (some (0, 10)))) else ((money_Sub.f k a1 t179).bind fun bt185 => (some (mx 0 bt185.1, bt185.2)))) else (some (0, t180))) = some (r1, r2) := H
  have A5 := AM A50
  clear A50
  by_cases c6 : t180 = 0
  rotate_left
  · rw [if_neg c6] at H
    have c6b0 : (t180 == 0) = false := beq_eq_false_iff_ne.mpr c6
    have c6b1 : (t180 != 0) = true := bne_iff_ne.mpr c6
    simp only [Option.some.injEq, Prod.mk.injEq] at H
    obtain ⟨rfl, rfl⟩ := H
    go_enter Tryd.func17, Tryd.ntmps17
    go_wp2_with (first | ((with_reducible refine gD (N := 4) rfl ?_); refine bE ?hg (N := 4) ?hd (cs := #[.int .i64 a0_0, .int .i64 a0_1, .int .i64 a0_2, .int .i64 a0_3, .bool a0_4]) (t := 23) ?hr ?_; (case hd => rfl); (case hg => rfl); (case hr => first | (go_simp; done) | (go_simp; rfl)); intro gb178 hg w31 hbox hb; have n0_ := AM (bT bQ hb); have n1_ := AM (hbox); have n2_ := AM ((by rw [hg]; exact (bZ bQ) : w.heap.size ≤ gb178)); have n3_ := AM ((by rw [hg]; exact (bZ bQ) : w.heap.size ≤ gb178)); clear HB; have HB := n0_; have BK178 := n1_; have GW178 := n2_; have GE178 := n3_; clear n0_ n1_ n2_ n3_; clear hb hbox hg; obtain ⟨_, _, _, _, _, _, _, _, _, _⟩ := bX5 BK178.out) | ((with_reducible refine gC (f := 15) rfl ?_); refine gL (some 17) rfl rfl Tryd.func15 (by kernel_rfl) rfl #[.agg #[.int .i64 a0_0, .int .i64 a0_1, .int .i64 a0_2, .int .i64 a0_3, .bool a0_4], .int .i64 a2, .int .i64 a3] rfl (by (try simp only [List.map_toArray, List.map_cons, List.map_nil]); first | done | rfl | (simp only [List.length_drop, List.length_take]; rfl)) ?_; (with_reducible refine (code_Free.calls k a0_0 a0_1 a0_2 a0_3 a0_4 a2 a3 t179 t180 _ A5.out).mono ?_); rintro e w33 ⟨rfl, hb⟩; refine ⟨_, rfl, ?_⟩; have n0_ := AM (kB (g := gb178) (o := .cells #[.int .i64 a0_0, .int .i64 a0_1, .int .i64 a0_2, .int .i64 a0_3, .bool a0_4] 23 (0, 0)) (kW BK178) hb); have n1_ := AM (bT bQ hb); clear BK178; clear HB; have BK178 := n0_; have HB := n1_; clear n0_ n1_; (try clear hb); (try clear hb2); (try clear hk); (try clear hi)))
    go_ret2
    exact ⟨by first | rfl | (simp [errW_none, errW_some] <;> rfl) | (simp [*, errW_none, errW_some] <;> rfl), by repeat (first | (with_reducible first | exact HB.out | apply bA | apply bD | apply b1 | refine bS ?_ GE178.out) | exact HB.out)⟩

  rw [if_pos c6] at H
  have c6b0 : (t180 == 0) = true := beq_iff_eq.mpr c6
  have c6b1 : (t180 != 0) = false := bne_eq_false_iff_eq.mpr c6
  clear c6
  by_cases c7 : a0_1 = 4
  rotate_left
  · rw [if_neg c7] at H
    have c7b0 : (a0_1 == 4) = false := beq_eq_false_iff_ne.mpr c7
    have c7b1 : (a0_1 != 4) = true := bne_iff_ne.mpr c7
    replace H := Option.bind_eq_some_iff.mp H
    obtain ⟨⟨t185, t186⟩, A240, H⟩ := H
    replace H : (some (mx 0 t185, t186)) = some (r1, r2) := H
    have A24 := AM A240
    clear A240
    obtain ⟨ji25, hji25⟩ : ∃ j_ : Int, (mx 0 t185) = j_ := ⟨_, rfl⟩
    replace H : (some (ji25, t186)) = some (r1, r2) := by first | (rw [hji25] at H; exact H) | (simp only [hji25] at H ⊢; exact H)
    (try rw [hji25] at A5)
    (try rw [hji25] at A24)
    (try (have hji25l : 0 ≤ ji25 := by (rw [← hji25]; unfold mx; (repeat' split) <;> omega)))
    (try (have hji25m : 0 ≤ ji25 := by omega))
    have hji25_ : (if 0 < t185 then t185 else 0) = ji25 := hji25
    simp only [Option.some.injEq, Prod.mk.injEq] at H
    obtain ⟨rfl, rfl⟩ := H
    go_enter Tryd.func17, Tryd.ntmps17
    go_wp2_with (first | ((with_reducible refine gD (N := 4) rfl ?_); refine bE ?hg (N := 4) ?hd (cs := #[.int .i64 a0_0, .int .i64 a0_1, .int .i64 a0_2, .int .i64 a0_3, .bool a0_4]) (t := 23) ?hr ?_; (case hd => rfl); (case hg => rfl); (case hr => first | (go_simp; done) | (go_simp; rfl)); intro gb178 hg w26 hbox hb; have n0_ := AM (bT bQ hb); have n1_ := AM (hbox); have n2_ := AM ((by rw [hg]; exact (bZ bQ) : w.heap.size ≤ gb178)); have n3_ := AM ((by rw [hg]; exact (bZ bQ) : w.heap.size ≤ gb178)); clear HB; have HB := n0_; have BK178 := n1_; have GW178 := n2_; have GE178 := n3_; clear n0_ n1_ n2_ n3_; clear hb hbox hg; obtain ⟨_, _, _, _, _, _, _, _, _, _⟩ := bX5 BK178.out) | ((with_reducible refine gC (f := 15) rfl ?_); refine gL (some 17) rfl rfl Tryd.func15 (by kernel_rfl) rfl #[.agg #[.int .i64 a0_0, .int .i64 a0_1, .int .i64 a0_2, .int .i64 a0_3, .bool a0_4], .int .i64 a2, .int .i64 a3] rfl (by (try simp only [List.map_toArray, List.map_cons, List.map_nil]); first | done | rfl | (simp only [List.length_drop, List.length_take]; rfl)) ?_; (with_reducible refine (code_Free.calls k a0_0 a0_1 a0_2 a0_3 a0_4 a2 a3 t179 t180 _ A5.out).mono ?_); rintro e w28 ⟨rfl, hb⟩; refine ⟨_, rfl, ?_⟩; have n0_ := AM (kB (g := gb178) (o := .cells #[.int .i64 a0_0, .int .i64 a0_1, .int .i64 a0_2, .int .i64 a0_3, .bool a0_4] 23 (0, 0)) (kW BK178) hb); have n1_ := AM (bT bQ hb); clear BK178; clear HB; have BK178 := n0_; have HB := n1_; clear n0_ n1_; (try clear hb); (try clear hb2); (try clear hk); (try clear hi); obtain ⟨_, _, _, _, _, _, _, _, _, _⟩ := bX5 BK178.out) | ((with_reducible refine gC (f := 33) rfl ?_); refine gL (some 33) rfl rfl Tryd.func33 (by kernel_rfl) rfl #[.int .i64 a1, .int .i64 t179] rfl (by (try simp only [List.map_toArray, List.map_cons, List.map_nil]); first | done | rfl | (simp only [List.length_drop, List.length_take]; rfl)) ?_; (with_reducible refine (money_Sub.calls k a1 t179 t185 t186 _ A24.out).mono ?_); rintro e w30 ⟨rfl, hb⟩; refine ⟨_, rfl, ?_⟩; have n0_ := AM (kB (g := gb178) (o := .cells #[.int .i64 a0_0, .int .i64 a0_1, .int .i64 a0_2, .int .i64 a0_3, .bool a0_4] 23 (0, 0)) (kW BK178) hb); have n1_ := AM (bT bQ hb); clear BK178; clear HB; have BK178 := n0_; have HB := n1_; clear n0_ n1_; (try clear hb); (try clear hb2); (try clear hk); (try clear hi)))
    go_ret2
    exact ⟨by first | rfl | (simp [errW_none, errW_some] <;> rfl) | (simp only [← hji25]; first | rfl | (simp [errW_none, errW_some] <;> rfl)) | (simp [*, errW_none, errW_some] <;> rfl), by repeat (first | (with_reducible first | exact HB.out | apply bA | apply bD | apply b1 | refine bS ?_ GE178.out) | exact HB.out)⟩
  rw [if_pos c7] at H
  have c7b0 : (a0_1 == 4) = true := beq_iff_eq.mpr c7
  have c7b1 : (a0_1 != 4) = false := bne_eq_false_iff_eq.mpr c7
  clear c7
  obtain ⟨y181, hy181⟩ : ∃ y_ : List Int, y_ = (([a1] : List Int)) := ⟨_, rfl⟩
  replace H : ((money_Right.f k y181).bind fun t184 => (if t184 = true then (some (0, 0)) else (some (0, 10)))) = some (r1, r2) := by first | (rw [hy181]; with_reducible exact H) | (have H2_ := (Option.bind_some _ _).symm.trans H; rw [hy181]; with_reducible exact H2_) | (have H2_ := (Option.bind_some _ _).symm.trans H; with_reducible exact H2_) | with_reducible exact H | (rw [hy181]; exact H) | exact H
  have Ny181 := AM hy181
  clear hy181
  replace H := Option.bind_eq_some_iff.mp H
  obtain ⟨t184, A80, H⟩ := H
  replace H : (if t184 = true then (some (0, 0)) else (some (0, 10))) = some (r1, r2) := H
  have A8 := AM A80
  clear A80
  by_cases c9 : t184 = true
  · subst c9
    have H1 : (some (0, 0)) = some (r1, r2) := by rw [if_pos rfl] at H; exact H
    clear H
    have H := H1
    clear H1
    simp only [Option.some.injEq, Prod.mk.injEq] at H
    obtain ⟨rfl, rfl⟩ := H
    go_enter Tryd.func17, Tryd.ntmps17
    go_wp2_with (first | ((with_reducible refine gD (N := 4) rfl ?_); refine bE ?hg (N := 4) ?hd (cs := #[.int .i64 a0_0, .int .i64 a0_1, .int .i64 a0_2, .int .i64 a0_3, .bool a0_4]) (t := 23) ?hr ?_; (case hd => rfl); (case hg => rfl); (case hr => first | (go_simp; done) | (go_simp; rfl)); intro gb178 hg w10 hbox hb; have n0_ := AM (bT bQ hb); have n1_ := AM (hbox); have n2_ := AM ((by rw [hg]; exact (bZ bQ) : w.heap.size ≤ gb178)); have n3_ := AM ((by rw [hg]; exact (bZ bQ) : w.heap.size ≤ gb178)); clear HB; have HB := n0_; have BK178 := n1_; have GW178 := n2_; have GE178 := n3_; clear n0_ n1_ n2_ n3_; clear hb hbox hg; obtain ⟨_, _, _, _, _, _, _, _, _, _⟩ := bX5 BK178.out) | ((with_reducible refine gC (f := 15) rfl ?_); refine gL (some 17) rfl rfl Tryd.func15 (by kernel_rfl) rfl #[.agg #[.int .i64 a0_0, .int .i64 a0_1, .int .i64 a0_2, .int .i64 a0_3, .bool a0_4], .int .i64 a2, .int .i64 a3] rfl (by (try simp only [List.map_toArray, List.map_cons, List.map_nil]); first | done | rfl | (simp only [List.length_drop, List.length_take]; rfl)) ?_; (with_reducible refine (code_Free.calls k a0_0 a0_1 a0_2 a0_3 a0_4 a2 a3 t179 t180 _ A5.out).mono ?_); rintro e w12 ⟨rfl, hb⟩; refine ⟨_, rfl, ?_⟩; have n0_ := AM (kB (g := gb178) (o := .cells #[.int .i64 a0_0, .int .i64 a0_1, .int .i64 a0_2, .int .i64 a0_3, .bool a0_4] 23 (0, 0)) (kW BK178) hb); have n1_ := AM (bT bQ hb); clear BK178; clear HB; have BK178 := n0_; have HB := n1_; clear n0_ n1_; (try clear hb); (try clear hb2); (try clear hk); (try clear hi); obtain ⟨_, _, _, _, _, _, _, _, _, _⟩ := bX5 BK178.out) | ((with_reducible refine gD (N := 27) rfl ?_); refine Kd.R_lit (Kd.int .i64) _ 2 ?hg (N := 27) ?hd (xs := ([a1] : List Int)) (inner := [.int .i64 a1]) (ok := fun _ => True) (okp := fun _ => True) ?hr ?hp (fun _ hk => hk) trivial (Below.refl _ _) (Nat.le_refl _) (by simp) ?_; (case hd => rfl); (case hg => rfl); (case hr => first | (go_simp; done) | (go_simp; rfl)); (case hp => exact (Reps.one (show Kd.M (Kd.int .i64) _ _ _ a1 [.int .i64 a1] from rfl) (Reps.none _ _))); intro v182 w14 ho15 hb hg_ hnew_; clear hg_ hnew_; (first | rw [← Ny181.out] at ho15 | (simp only [Int.reduceToNat] at ho15; rw [← Ny181.out] at ho15)); have n0_ := AM (Kd.R_lower ho15 (bZ bQ)); have n1_ := AM (kB (g := gb178) (o := .cells #[.int .i64 a0_0, .int .i64 a0_1, .int .i64 a0_2, .int .i64 a0_3, .bool a0_4] 23 (0, 0)) (kW BK178) hb); have n2_ := AM (bT bQ hb); clear BK178; clear HB; have HO183 := n0_; have BK178 := n1_; have HB := n2_; clear n0_ n1_ n2_; clear hb ho15; obtain ⟨Ao16, co16, eo16⟩ := Kd.R_slice HO183.out; subst eo16) | ((with_reducible refine gC (f := 32) rfl ?_); refine gL (some 28) rfl rfl Tryd.func32 (by kernel_rfl) rfl #[.slice Ao16 y181.length co16] rfl (by (try simp only [List.map_toArray, List.map_cons, List.map_nil]); first | done | rfl | (simp only [List.length_drop, List.length_take]; rfl)) ?_; (with_reducible refine (money_Right.calls k _ _ y181 true _ ?side1 ?side2 A8.out).mono ?_); (case side1 => repeat (first | exact (Kd.R_reads' HO183.out).2.2 | (with_reducible refine cA ?_ _) | (with_reducible refine cD ?_ _) | (with_reducible refine c1_ ?_))); (case side2 => exact (Kd.R_reads' HO183.out).2.1); rintro e w' ⟨rfl, ⟨nd, rfl⟩⟩; refine ⟨_, rfl, ?_⟩))
    go_ret2
    exact ⟨by first | rfl | (simp [errW_none, errW_some] <;> rfl) | (simp [*, errW_none, errW_some] <;> rfl), by repeat (first | (with_reducible first | exact HB.out | apply bA | apply bD | apply b1 | refine bS ?_ GE178.out) | exact HB.out)⟩
  replace c9 := Bool.eq_false_iff.mpr c9
  subst c9
  have H1 : (some (0, 10)) = some (r1, r2) := by rw [if_neg (show ¬ (false = true) by decide)] at H; exact H
  clear H
  have H := H1
  clear H1
  simp only [Option.some.injEq, Prod.mk.injEq] at H
  obtain ⟨rfl, rfl⟩ := H
  go_enter Tryd.func17, Tryd.ntmps17
  go_wp2_with (first | ((with_reducible refine gD (N := 4) rfl ?_); refine bE ?hg (N := 4) ?hd (cs := #[.int .i64 a0_0, .int .i64 a0_1, .int .i64 a0_2, .int .i64 a0_3, .bool a0_4]) (t := 23) ?hr ?_; (case hd => rfl); (case hg => rfl); (case hr => first | (go_simp; done) | (go_simp; rfl)); intro gb178 hg w17 hbox hb; have n0_ := AM (bT bQ hb); have n1_ := AM (hbox); have n2_ := AM ((by rw [hg]; exact (bZ bQ) : w.heap.size ≤ gb178)); have n3_ := AM ((by rw [hg]; exact (bZ bQ) : w.heap.size ≤ gb178)); clear HB; have HB := n0_; have BK178 := n1_; have GW178 := n2_; have GE178 := n3_; clear n0_ n1_ n2_ n3_; clear hb hbox hg; obtain ⟨_, _, _, _, _, _, _, _, _, _⟩ := bX5 BK178.out) | ((with_reducible refine gC (f := 15) rfl ?_); refine gL (some 17) rfl rfl Tryd.func15 (by kernel_rfl) rfl #[.agg #[.int .i64 a0_0, .int .i64 a0_1, .int .i64 a0_2, .int .i64 a0_3, .bool a0_4], .int .i64 a2, .int .i64 a3] rfl (by (try simp only [List.map_toArray, List.map_cons, List.map_nil]); first | done | rfl | (simp only [List.length_drop, List.length_take]; rfl)) ?_; (with_reducible refine (code_Free.calls k a0_0 a0_1 a0_2 a0_3 a0_4 a2 a3 t179 t180 _ A5.out).mono ?_); rintro e w19 ⟨rfl, hb⟩; refine ⟨_, rfl, ?_⟩; have n0_ := AM (kB (g := gb178) (o := .cells #[.int .i64 a0_0, .int .i64 a0_1, .int .i64 a0_2, .int .i64 a0_3, .bool a0_4] 23 (0, 0)) (kW BK178) hb); have n1_ := AM (bT bQ hb); clear BK178; clear HB; have BK178 := n0_; have HB := n1_; clear n0_ n1_; (try clear hb); (try clear hb2); (try clear hk); (try clear hi); obtain ⟨_, _, _, _, _, _, _, _, _, _⟩ := bX5 BK178.out) | ((with_reducible refine gD (N := 27) rfl ?_); refine Kd.R_lit (Kd.int .i64) _ 2 ?hg (N := 27) ?hd (xs := ([a1] : List Int)) (inner := [.int .i64 a1]) (ok := fun _ => True) (okp := fun _ => True) ?hr ?hp (fun _ hk => hk) trivial (Below.refl _ _) (Nat.le_refl _) (by simp) ?_; (case hd => rfl); (case hg => rfl); (case hr => first | (go_simp; done) | (go_simp; rfl)); (case hp => exact (Reps.one (show Kd.M (Kd.int .i64) _ _ _ a1 [.int .i64 a1] from rfl) (Reps.none _ _))); intro v182 w21 ho22 hb hg_ hnew_; clear hg_ hnew_; (first | rw [← Ny181.out] at ho22 | (simp only [Int.reduceToNat] at ho22; rw [← Ny181.out] at ho22)); have n0_ := AM (Kd.R_lower ho22 (bZ bQ)); have n1_ := AM (kB (g := gb178) (o := .cells #[.int .i64 a0_0, .int .i64 a0_1, .int .i64 a0_2, .int .i64 a0_3, .bool a0_4] 23 (0, 0)) (kW BK178) hb); have n2_ := AM (bT bQ hb); clear BK178; clear HB; have HO183 := n0_; have BK178 := n1_; have HB := n2_; clear n0_ n1_ n2_; clear hb ho22; obtain ⟨Ao23, co23, eo23⟩ := Kd.R_slice HO183.out; subst eo23) | ((with_reducible refine gC (f := 32) rfl ?_); refine gL (some 28) rfl rfl Tryd.func32 (by kernel_rfl) rfl #[.slice Ao23 y181.length co23] rfl (by (try simp only [List.map_toArray, List.map_cons, List.map_nil]); first | done | rfl | (simp only [List.length_drop, List.length_take]; rfl)) ?_; (with_reducible refine (money_Right.calls k _ _ y181 false _ ?side1 ?side2 A8.out).mono ?_); (case side1 => repeat (first | exact (Kd.R_reads' HO183.out).2.2 | (with_reducible refine cA ?_ _) | (with_reducible refine cD ?_ _) | (with_reducible refine c1_ ?_))); (case side2 => exact (Kd.R_reads' HO183.out).2.1); rintro e w' ⟨rfl, ⟨nd, rfl⟩⟩; refine ⟨_, rfl, ?_⟩))
  go_ret2
  exact ⟨by first | rfl | (simp [errW_none, errW_some] <;> rfl) | (simp [*, errW_none, errW_some] <;> rfl), by repeat (first | (with_reducible first | exact HB.out | apply bA | apply bD | apply b1 | refine bS ?_ GE178.out) | exact HB.out)⟩
/-! ### codesR: function 16 -/
def codesR.f (k : Nat)  : Option (Bool) := (code_Parse.f k (⟨#[49, 50, 53, 55, 76]⟩ : ByteArray)).bind fun bt187 => ((code_Parse.f k (⟨#[81, 75, 49, 48, 88]⟩ : ByteArray)).bind fun bt194 => ((code_Parse.f k (⟨#[68, 49]⟩ : ByteArray)).bind fun bt201 => ((code_Free.f k bt187.1 bt187.2.1 bt187.2.2.1 bt187.2.2.2.1 bt187.2.2.2.2.1 1 12).bind fun bt208 => ((code_Free.f k bt194.1 bt194.2.1 bt194.2.2.1 bt194.2.2.2.1 bt194.2.2.2.2.1 1 12).bind fun bt210 => ((code_Charge.f k bt187.1 bt187.2.1 bt187.2.2.1 bt187.2.2.2.1 bt187.2.2.2.2.1 2000000 12 12).bind fun bt212 => (if (wrap64 ((wrap64 ((wrap64 ((wrap64 ((wrap64 (bt187.2.2.2.2.2 + bt194.2.2.2.2.2)) + bt201.2.2.2.2.2)) + bt208.2)) + bt210.2)) + bt212.2)) = 0 then (if (bt187.1 == 0 && (bt187.2.1 == 1 && (bt187.2.2.1 == 1257000 && (bt187.2.2.2.1 == 0 && (!bt187.2.2.2.2.1))))) = true then (if (bt194.1 == 2 && (bt194.2.1 == 2 && (bt194.2.2.1 == 10000 && (bt194.2.2.2.1 == 0 && (bt194.2.2.2.2.1))))) = true then (if (bt201.1 == 0 && (bt201.2.1 == 3 && (bt201.2.2.1 == 0 && (bt201.2.2.2.1 == 1 && (!bt201.2.2.2.2.1))))) = true then (if bt208.1 = 104750 then (if bt210.1 = (-833) then (if bt212.1 = 743000 then ((code_Text.f k bt194.1 bt194.2.1 bt194.2.2.1 bt194.2.2.2.1 bt194.2.2.2.2.1).bind fun t214 => (if t214.toList = ([81, 75, 49, 48, 88] : List UInt8) then (some true) else (some false))) else (some false)) else (some false)) else (some false)) else (some false)) else (some false)) else (some false)) else (some false)))))))
set_option maxHeartbeats 8000000 in
set_option maxRecDepth 100000 in
theorem codesR.calls (k : Nat)  (r : Bool) (w : World) (hrt : r = true) (h : codesR.f k  = some r) (htb : TB w) :
    Calls Tryd.prog 16 #[] w fun e w' => e = .returned (.bool r) ∧ Below w.heap.size w w' := by
  have HRT := AM hrt
  clear hrt
  have hu23 := Tryd.underlying23
  have HB := AM (Below.refl w.heap.size w)
  have H : ((code_Parse.f k (⟨#[49, 50, 53, 55, 76]⟩ : ByteArray)).bind fun bt187 => ((code_Parse.f k (⟨#[81, 75, 49, 48, 88]⟩ : ByteArray)).bind fun bt194 => ((code_Parse.f k (⟨#[68, 49]⟩ : ByteArray)).bind fun bt201 => ((code_Free.f k bt187.1 bt187.2.1 bt187.2.2.1 bt187.2.2.2.1 bt187.2.2.2.2.1 1 12).bind fun bt208 => ((code_Free.f k bt194.1 bt194.2.1 bt194.2.2.1 bt194.2.2.2.1 bt194.2.2.2.2.1 1 12).bind fun bt210 => ((code_Charge.f k bt187.1 bt187.2.1 bt187.2.2.1 bt187.2.2.2.1 bt187.2.2.2.2.1 2000000 12 12).bind fun bt212 => (if (wrap64 ((wrap64 ((wrap64 ((wrap64 ((wrap64 (bt187.2.2.2.2.2 + bt194.2.2.2.2.2)) + bt201.2.2.2.2.2)) + bt208.2)) + bt210.2)) + bt212.2)) = 0 then (if (bt187.1 == 0 && (bt187.2.1 == 1 && (bt187.2.2.1 == 1257000 && (bt187.2.2.2.1 == 0 && (!bt187.2.2.2.2.1))))) = true then (if (bt194.1 == 2 && (bt194.2.1 == 2 && (bt194.2.2.1 == 10000 && (bt194.2.2.2.1 == 0 && (bt194.2.2.2.2.1))))) = true then (if (bt201.1 == 0 && (bt201.2.1 == 3 && (bt201.2.2.1 == 0 && (bt201.2.2.2.1 == 1 && (!bt201.2.2.2.2.1))))) = true then (if bt208.1 = 104750 then (if bt210.1 = (-833) then (if bt212.1 = 743000 then ((code_Text.f k bt194.1 bt194.2.1 bt194.2.2.1 bt194.2.2.2.1 bt194.2.2.2.2.1).bind fun t214 => (if t214.toList = ([81, 75, 49, 48, 88] : List UInt8) then (some true) else (some false))) else (some false)) else (some false)) else (some false)) else (some false)) else (some false)) else (some false)) else (some false)))))))) = some r := h
  clear h
  replace H := Option.bind_eq_some_iff.mp H
  obtain ⟨⟨t187, t188, t189, t190, t191, t192⟩, A10, H⟩ := H
  replace H : ((code_Parse.f k (⟨#[81, 75, 49, 48, 88]⟩ : ByteArray)).bind fun bt194 => ((code_Parse.f k (⟨#[68, 49]⟩ : ByteArray)).bind fun bt201 => ((code_Free.f k t187 t188 t189 t190 t191 1 12).bind fun bt208 => ((code_Free.f k bt194.1 bt194.2.1 bt194.2.2.1 bt194.2.2.2.1 bt194.2.2.2.2.1 1 12).bind fun bt210 => ((code_Charge.f k t187 t188 t189 t190 t191 2000000 12 12).bind fun bt212 => (if (wrap64 ((wrap64 ((wrap64 ((wrap64 ((wrap64 (t192 + bt194.2.2.2.2.2)) + bt201.2.2.2.2.2)) + bt208.2)) + bt210.2)) + bt212.2)) = 0 then (if (t187 == 0 && (t188 == 1 && (t189 == 1257000 && (t190 == 0 && (!t191))))) = true then (if (bt194.1 == 2 && (bt194.2.1 == 2 && (bt194.2.2.1 == 10000 && (bt194.2.2.2.1 == 0 && (bt194.2.2.2.2.1))))) = true then (if (bt201.1 == 0 && (bt201.2.1 == 3 && (bt201.2.2.1 == 0 && (bt201.2.2.2.1 == 1 && (!bt201.2.2.2.2.1))))) = true then (if bt208.1 = 104750 then (if bt210.1 = (-833) then (if bt212.1 = 743000 then ((code_Text.f k bt194.1 bt194.2.1 bt194.2.2.1 bt194.2.2.2.1 bt194.2.2.2.2.1).bind fun t214 => (if t214.toList = ([81, 75, 49, 48, 88] : List UInt8) then (some true) else (some false))) else (some false)) else (some false)) else (some false)) else (some false)) else (some false)) else (some false)) else (some false))))))) = some r := H
  have A1 := AM A10
  clear A10
  replace H := Option.bind_eq_some_iff.mp H
  obtain ⟨⟨t194, t195, t196, t197, t198, t199⟩, A20, H⟩ := H
  replace H : ((code_Parse.f k (⟨#[68, 49]⟩ : ByteArray)).bind fun bt201 => ((code_Free.f k t187 t188 t189 t190 t191 1 12).bind fun bt208 => ((code_Free.f k t194 t195 t196 t197 t198 1 12).bind fun bt210 => ((code_Charge.f k t187 t188 t189 t190 t191 2000000 12 12).bind fun bt212 => (if (wrap64 ((wrap64 ((wrap64 ((wrap64 ((wrap64 (t192 + t199)) + bt201.2.2.2.2.2)) + bt208.2)) + bt210.2)) + bt212.2)) = 0 then (if (t187 == 0 && (t188 == 1 && (t189 == 1257000 && (t190 == 0 && (!t191))))) = true then (if (t194 == 2 && (t195 == 2 && (t196 == 10000 && (t197 == 0 && (t198))))) = true then (if (bt201.1 == 0 && (bt201.2.1 == 3 && (bt201.2.2.1 == 0 && (bt201.2.2.2.1 == 1 && (!bt201.2.2.2.2.1))))) = true then (if bt208.1 = 104750 then (if bt210.1 = (-833) then (if bt212.1 = 743000 then ((code_Text.f k t194 t195 t196 t197 t198).bind fun t214 => (if t214.toList = ([81, 75, 49, 48, 88] : List UInt8) then (some true) else (some false))) else (some false)) else (some false)) else (some false)) else (some false)) else (some false)) else (some false)) else (some false)))))) = some r := H
  have A2 := AM A20
  clear A20
  replace H := Option.bind_eq_some_iff.mp H
  obtain ⟨⟨t201, t202, t203, t204, t205, t206⟩, A30, H⟩ := H
  replace H : ((code_Free.f k t187 t188 t189 t190 t191 1 12).bind fun bt208 => ((code_Free.f k t194 t195 t196 t197 t198 1 12).bind fun bt210 => ((code_Charge.f k t187 t188 t189 t190 t191 2000000 12 12).bind fun bt212 => (if (wrap64 ((wrap64 ((wrap64 ((wrap64 ((wrap64 (t192 + t199)) + t206)) + bt208.2)) + bt210.2)) + bt212.2)) = 0 then (if (t187 == 0 && (t188 == 1 && (t189 == 1257000 && (t190 == 0 && (!t191))))) = true then (if (t194 == 2 && (t195 == 2 && (t196 == 10000 && (t197 == 0 && (t198))))) = true then (if (t201 == 0 && (t202 == 3 && (t203 == 0 && (t204 == 1 && (!t205))))) = true then (if bt208.1 = 104750 then (if bt210.1 = (-833) then (if bt212.1 = 743000 then ((code_Text.f k t194 t195 t196 t197 t198).bind fun t214 => (if t214.toList = ([81, 75, 49, 48, 88] : List UInt8) then (some true) else (some false))) else (some false)) else (some false)) else (some false)) else (some false)) else (some false)) else (some false)) else (some false))))) = some r := H
  have A3 := AM A30
  clear A30
  replace H := Option.bind_eq_some_iff.mp H
  obtain ⟨⟨t208, t209⟩, A40, H⟩ := H
  replace H : ((code_Free.f k t194 t195 t196 t197 t198 1 12).bind fun bt210 => ((code_Charge.f k t187 t188 t189 t190 t191 2000000 12 12).bind fun bt212 => (if (wrap64 ((wrap64 ((wrap64 ((wrap64 ((wrap64 (t192 + t199)) + t206)) + t209)) + bt210.2)) + bt212.2)) = 0 then (if (t187 == 0 && (t188 == 1 && (t189 == 1257000 && (t190 == 0 && (!t191))))) = true then (if (t194 == 2 && (t195 == 2 && (t196 == 10000 && (t197 == 0 && (t198))))) = true then (if (t201 == 0 && (t202 == 3 && (t203 == 0 && (t204 == 1 && (!t205))))) = true then (if t208 = 104750 then (if bt210.1 = (-833) then (if bt212.1 = 743000 then ((code_Text.f k t194 t195 t196 t197 t198).bind fun t214 => (if t214.toList = ([81, 75, 49, 48, 88] : List UInt8) then (some true) else (some false))) else (some false)) else (some false)) else (some false)) else (some false)) else (some false)) else (some false)) else (some false)))) = some r := H
  have A4 := AM A40
  clear A40
  replace H := Option.bind_eq_some_iff.mp H
  obtain ⟨⟨t210, t211⟩, A50, H⟩ := H
  replace H : ((code_Charge.f k t187 t188 t189 t190 t191 2000000 12 12).bind fun bt212 => (if (wrap64 ((wrap64 ((wrap64 ((wrap64 ((wrap64 (t192 + t199)) + t206)) + t209)) + t211)) + bt212.2)) = 0 then (if (t187 == 0 && (t188 == 1 && (t189 == 1257000 && (t190 == 0 && (!t191))))) = true then (if (t194 == 2 && (t195 == 2 && (t196 == 10000 && (t197 == 0 && (t198))))) = true then (if (t201 == 0 && (t202 == 3 && (t203 == 0 && (t204 == 1 && (!t205))))) = true then (if t208 = 104750 then (if t210 = (-833) then (if bt212.1 = 743000 then ((code_Text.f k t194 t195 t196 t197 t198).bind fun t214 => (if t214.toList = ([81, 75, 49, 48, 88] : List UInt8) then (some true) else (some false))) else (some false)) else (some false)) else (some false)) else (some false)) else (some false)) else (some false)) else (some false))) = some r := H
  have A5 := AM A50
  clear A50
  replace H := Option.bind_eq_some_iff.mp H
  obtain ⟨⟨t212, t213⟩, A60, H⟩ := H
  replace H : (if (wrap64 ((wrap64 ((wrap64 ((wrap64 ((wrap64 (t192 + t199)) + t206)) + t209)) + t211)) + t213)) = 0 then (if (t187 == 0 && (t188 == 1 && (t189 == 1257000 && (t190 == 0 && (!t191))))) = true then (if (t194 == 2 && (t195 == 2 && (t196 == 10000 && (t197 == 0 && (t198))))) = true then (if (t201 == 0 && (t202 == 3 && (t203 == 0 && (t204 == 1 && (!t205))))) = true then (if t208 = 104750 then (if t210 = (-833) then (if t212 = 743000 then ((code_Text.f k t194 t195 t196 t197 t198).bind fun t214 => (if t214.toList = ([81, 75, 49, 48, 88] : List UInt8) then (some true) else (some false))) else (some false)) else (some false)) else (some false)) else (some false)) else (some false)) else (some false)) else (some false)) = some r := H
  have A6 := AM A60
  clear A60
  by_cases c7 : (wrap64 ((wrap64 ((wrap64 ((wrap64 ((wrap64 (t192 + t199)) + t206)) + t209)) + t211)) + t213)) = 0
  rotate_left
  · rw [if_neg c7] at H
    have c7b0 : ((wrap64 ((wrap64 ((wrap64 ((wrap64 ((wrap64 (t192 + t199)) + t206)) + t209)) + t211)) + t213)) == 0) = false := beq_eq_false_iff_ne.mpr c7
    have c7b1 : ((wrap64 ((wrap64 ((wrap64 ((wrap64 ((wrap64 (t192 + t199)) + t206)) + t209)) + t211)) + t213)) != 0) = true := bne_iff_ne.mpr c7
    exact absurd (Option.some.inj H) (by rw [HRT.out]; decide)

  rw [if_pos c7] at H
  have c7b0 : ((wrap64 ((wrap64 ((wrap64 ((wrap64 ((wrap64 (t192 + t199)) + t206)) + t209)) + t211)) + t213)) == 0) = true := beq_iff_eq.mpr c7
  have c7b1 : ((wrap64 ((wrap64 ((wrap64 ((wrap64 ((wrap64 (t192 + t199)) + t206)) + t209)) + t211)) + t213)) != 0) = false := bne_eq_false_iff_eq.mpr c7
  clear c7
  by_cases c8 : (t187 == 0 && (t188 == 1 && (t189 == 1257000 && (t190 == 0 && (!t191))))) = true
  rotate_left
  · rw [if_neg c8] at H
    have c8b0 : (t187 == 0 && (t188 == 1 && (t189 == 1257000 && (t190 == 0 && (!t191))))) = false := by simpa using c8
    (try (have c8b1 : decide (t187 = 0 && (t188 == 1 && (t189 == 1257000 && (t190 == 0 && (!t191))))) = false := by simpa using c8))
    (try (have c8b2 : (t187 == 0 && (t188 == 1 && (t189 == 1257000 && (t190 == 0 && (!t191))))) = false := by simpa using c8))
    (try (have c8b3 : ¬ (t187 = 0 && (t188 == 1 && (t189 == 1257000 && (t190 == 0 && (!t191))))) := by simpa using c8))
    clear c8
    exact absurd (Option.some.inj H) (by rw [HRT.out]; decide)
  rw [if_pos c8] at H
  have c8b0 : (t187 == 0 && (t188 == 1 && (t189 == 1257000 && (t190 == 0 && (!t191))))) = true := c8
  (try (have c8b1 : decide (t187 = 0 && (t188 == 1 && (t189 == 1257000 && (t190 == 0 && (!t191))))) = true := by simpa using c8))
  (try (have c8b2 : (t187 == 0 && (t188 == 1 && (t189 == 1257000 && (t190 == 0 && (!t191))))) = true := by simpa using c8))
  clear c8
  by_cases c9 : (t194 == 2 && (t195 == 2 && (t196 == 10000 && (t197 == 0 && (t198))))) = true
  rotate_left
  · rw [if_neg c9] at H
    have c9b0 : (t194 == 2 && (t195 == 2 && (t196 == 10000 && (t197 == 0 && (t198))))) = false := by simpa using c9
    (try (have c9b1 : decide (t194 = 2 && (t195 == 2 && (t196 == 10000 && (t197 == 0 && (t198))))) = false := by simpa using c9))
    (try (have c9b2 : (t194 == 2 && (t195 == 2 && (t196 == 10000 && (t197 == 0 && (t198))))) = false := by simpa using c9))
    (try (have c9b3 : ¬ (t194 = 2 && (t195 == 2 && (t196 == 10000 && (t197 == 0 && (t198))))) := by simpa using c9))
    clear c9
    exact absurd (Option.some.inj H) (by rw [HRT.out]; decide)
  rw [if_pos c9] at H
  have c9b0 : (t194 == 2 && (t195 == 2 && (t196 == 10000 && (t197 == 0 && (t198))))) = true := c9
  (try (have c9b1 : decide (t194 = 2 && (t195 == 2 && (t196 == 10000 && (t197 == 0 && (t198))))) = true := by simpa using c9))
  (try (have c9b2 : (t194 == 2 && (t195 == 2 && (t196 == 10000 && (t197 == 0 && (t198))))) = true := by simpa using c9))
  clear c9
  by_cases c10 : (t201 == 0 && (t202 == 3 && (t203 == 0 && (t204 == 1 && (!t205))))) = true
  rotate_left
  · rw [if_neg c10] at H
    have c10b0 : (t201 == 0 && (t202 == 3 && (t203 == 0 && (t204 == 1 && (!t205))))) = false := by simpa using c10
    (try (have c10b1 : decide (t201 = 0 && (t202 == 3 && (t203 == 0 && (t204 == 1 && (!t205))))) = false := by simpa using c10))
    (try (have c10b2 : (t201 == 0 && (t202 == 3 && (t203 == 0 && (t204 == 1 && (!t205))))) = false := by simpa using c10))
    (try (have c10b3 : ¬ (t201 = 0 && (t202 == 3 && (t203 == 0 && (t204 == 1 && (!t205))))) := by simpa using c10))
    clear c10
    exact absurd (Option.some.inj H) (by rw [HRT.out]; decide)
  rw [if_pos c10] at H
  have c10b0 : (t201 == 0 && (t202 == 3 && (t203 == 0 && (t204 == 1 && (!t205))))) = true := c10
  (try (have c10b1 : decide (t201 = 0 && (t202 == 3 && (t203 == 0 && (t204 == 1 && (!t205))))) = true := by simpa using c10))
  (try (have c10b2 : (t201 == 0 && (t202 == 3 && (t203 == 0 && (t204 == 1 && (!t205))))) = true := by simpa using c10))
  clear c10
  by_cases c11 : t208 = 104750
  rotate_left
  · rw [if_neg c11] at H
    have c11b0 : (t208 == 104750) = false := beq_eq_false_iff_ne.mpr c11
    have c11b1 : (t208 != 104750) = true := bne_iff_ne.mpr c11
    exact absurd (Option.some.inj H) (by rw [HRT.out]; decide)
  rw [if_pos c11] at H
  have c11b0 : (t208 == 104750) = true := beq_iff_eq.mpr c11
  have c11b1 : (t208 != 104750) = false := bne_eq_false_iff_eq.mpr c11
  clear c11
  by_cases c12 : t210 = (-833)
  rotate_left
  · rw [if_neg c12] at H
    have c12b0 : (t210 == (-833)) = false := beq_eq_false_iff_ne.mpr c12
    have c12b1 : (t210 != (-833)) = true := bne_iff_ne.mpr c12
    exact absurd (Option.some.inj H) (by rw [HRT.out]; decide)
  rw [if_pos c12] at H
  have c12b0 : (t210 == (-833)) = true := beq_iff_eq.mpr c12
  have c12b1 : (t210 != (-833)) = false := bne_eq_false_iff_eq.mpr c12
  clear c12
  by_cases c13 : t212 = 743000
  rotate_left
  · rw [if_neg c13] at H
    have c13b0 : (t212 == 743000) = false := beq_eq_false_iff_ne.mpr c13
    have c13b1 : (t212 != 743000) = true := bne_iff_ne.mpr c13
    exact absurd (Option.some.inj H) (by rw [HRT.out]; decide)
  rw [if_pos c13] at H
  have c13b0 : (t212 == 743000) = true := beq_iff_eq.mpr c13
  have c13b1 : (t212 != 743000) = false := bne_eq_false_iff_eq.mpr c13
  clear c13
  replace H := Option.bind_eq_some_iff.mp H
  obtain ⟨t214, A140, H⟩ := H
  replace H : (if t214.toList = ([81, 75, 49, 48, 88] : List UInt8) then (some true) else (some false)) = some r := H
  have A14 := AM A140
  clear A140
  by_cases c15 : t214.toList = ([81, 75, 49, 48, 88] : List UInt8)
  rotate_left
  · rw [if_neg c15] at H
    have c15b0 : (t214.toList == ([81, 75, 49, 48, 88] : List UInt8)) = false := beq_eq_false_iff_ne.mpr c15
    have c15b1 : (t214.toList != ([81, 75, 49, 48, 88] : List UInt8)) = true := bne_iff_ne.mpr c15
    exact absurd (Option.some.inj H) (by rw [HRT.out]; decide)
  rw [if_pos c15] at H
  have c15b0 : (t214.toList == ([81, 75, 49, 48, 88] : List UInt8)) = true := beq_iff_eq.mpr c15
  have c15b1 : (t214.toList != ([81, 75, 49, 48, 88] : List UInt8)) = false := bne_eq_false_iff_eq.mpr c15
  clear c15
  obtain rfl := Option.some.inj H
  go_enter Tryd.func16, Tryd.ntmps16
  go_wp2_with (first | ((with_reducible refine gC (f := 9) rfl ?_); refine gL (some 14) rfl rfl Tryd.func9 (by kernel_rfl) rfl #[.string (⟨#[49, 50, 53, 55, 76]⟩ : ByteArray)] rfl (by (try simp only [List.map_toArray, List.map_cons, List.map_nil]); first | done | rfl | (simp only [List.length_drop, List.length_take]; rfl)) ?_; (with_reducible refine (code_Parse.calls k (⟨#[49, 50, 53, 55, 76]⟩ : ByteArray) t187 t188 t189 t190 t191 t192 _ A1.out).mono ?_); rintro e w16 ⟨rfl, hb⟩; refine ⟨_, rfl, ?_⟩; have n0_ := AM (bT bQ hb); clear HB; have HB := n0_; clear n0_; (try clear hb); (try clear hb2); (try clear hk); (try clear hi)) | ((with_reducible refine gD (N := 1) rfl ?_); refine bE ?hg (N := 1) ?hd (cs := #[.int .i64 0, .int .i64 0, .int .i64 0, .int .i64 0, .bool false]) (t := 23) ?hr ?_; (case hd => rfl); (case hg => rfl); (case hr => first | (go_simp; done) | (go_simp; rfl)); intro gb193 hg w17 hbox hb; have n0_ := AM (bT bQ hb); have n1_ := AM (hbox); have n2_ := AM ((by rw [hg]; exact (bZ bQ) : w.heap.size ≤ gb193)); have n3_ := AM ((by rw [hg]; exact (bZ bQ) : w.heap.size ≤ gb193)); clear HB; have HB := n0_; have BK193 := n1_; have GW193 := n2_; have GE193 := n3_; clear n0_ n1_ n2_ n3_; clear hb hbox hg; obtain ⟨_, _, _, _, _, _, _, _, _, _⟩ := bX5 BK193.out) | ((with_reducible refine gC (f := 9) rfl ?_); refine gL (some 18) rfl rfl Tryd.func9 (by kernel_rfl) rfl #[.string (⟨#[81, 75, 49, 48, 88]⟩ : ByteArray)] rfl (by (try simp only [List.map_toArray, List.map_cons, List.map_nil]); first | done | rfl | (simp only [List.length_drop, List.length_take]; rfl)) ?_; (with_reducible refine (code_Parse.calls k (⟨#[81, 75, 49, 48, 88]⟩ : ByteArray) t194 t195 t196 t197 t198 t199 _ A2.out).mono ?_); rintro e w19 ⟨rfl, hb⟩; refine ⟨_, rfl, ?_⟩; have n0_ := AM (kB (g := gb193) (o := .cells #[.int .i64 t187, .int .i64 t188, .int .i64 t189, .int .i64 t190, .bool t191] 23 (0, 0)) (by (with_reducible repeat (first | refine kD ?_ _ | refine k1_ ?_ | refine kA ?_ _)); refine kP (cs := #[.int .i64 t187, .int .i64 t188, .int .i64 t189, .int .i64 t190, .bool false]) ?_ 4 _ (by first | rfl | (simp only [u8w]; rfl)); (with_reducible repeat (first | refine kD ?_ _ | refine k1_ ?_ | refine kA ?_ _)); refine kP (cs := #[.int .i64 t187, .int .i64 t188, .int .i64 t189, .int .i64 0, .bool false]) ?_ 3 _ (by first | rfl | (simp only [u8w]; rfl)); (with_reducible repeat (first | refine kD ?_ _ | refine k1_ ?_ | refine kA ?_ _)); refine kP (cs := #[.int .i64 t187, .int .i64 t188, .int .i64 0, .int .i64 0, .bool false]) ?_ 2 _ (by first | rfl | (simp only [u8w]; rfl)); (with_reducible repeat (first | refine kD ?_ _ | refine k1_ ?_ | refine kA ?_ _)); refine kP (cs := #[.int .i64 t187, .int .i64 0, .int .i64 0, .int .i64 0, .bool false]) ?_ 1 _ (by first | rfl | (simp only [u8w]; rfl)); (with_reducible repeat (first | refine kD ?_ _ | refine k1_ ?_ | refine kA ?_ _)); refine kP (cs := #[.int .i64 0, .int .i64 0, .int .i64 0, .int .i64 0, .bool false]) ?_ 0 _ (by first | rfl | (simp only [u8w]; rfl)); (with_reducible repeat (first | refine kD ?_ _ | refine k1_ ?_ | refine kA ?_ _)); exact BK193.out) hb); have n1_ := AM (bT bQ hb); clear BK193; clear HB; have BK193 := n0_; have HB := n1_; clear n0_ n1_; (try clear hb); (try clear hb2); (try clear hk); (try clear hi)) | ((with_reducible refine gD (N := 3) rfl ?_); refine bE ?hg (N := 3) ?hd (cs := #[.int .i64 0, .int .i64 0, .int .i64 0, .int .i64 0, .bool false]) (t := 23) ?hr ?_; (case hd => rfl); (case hg => rfl); (case hr => first | (go_simp; done) | (go_simp; rfl)); intro gb200 hg w20 hbox hb; have n0_ := AM (kB (g := gb193) (o := .cells #[.int .i64 t187, .int .i64 t188, .int .i64 t189, .int .i64 t190, .bool t191] 23 (0, 0)) (kW BK193) hb); have n1_ := AM (bT bQ hb); have n2_ := AM (hbox); have n3_ := AM ((by rw [hg]; exact (bZ bQ) : w.heap.size ≤ gb200)); have n4_ := AM ((by rw [hg]; exact (bZ bQ) : w.heap.size ≤ gb200)); have n5_ := AM ((by rw [hg]; exact Nat.ne_of_lt (blk_lt (g := gb193) (o := .cells #[.int .i64 t187, .int .i64 t188, .int .i64 t189, .int .i64 t190, .bool t191] 23 (0, 0)) (kW BK193)) : gb193 ≠ gb200)); have n6_ := AM ((by rw [hg]; exact Nat.ne_of_gt (blk_lt (g := gb193) (o := .cells #[.int .i64 t187, .int .i64 t188, .int .i64 t189, .int .i64 t190, .bool t191] 23 (0, 0)) (kW BK193)) : gb200 ≠ gb193)); clear BK193; clear HB; have BK193 := n0_; have HB := n1_; have BK200 := n2_; have GW200 := n3_; have GE200 := n4_; have NB193_200 := n5_; have NB200_193 := n6_; clear n0_ n1_ n2_ n3_ n4_ n5_ n6_; clear hb hbox hg; have hnb21 := NB200_193.out; have hnc21 := NB193_200.out; obtain ⟨_, _, _, _, _, _, _, _, _, _⟩ := bX5 BK200.out) | ((with_reducible refine gC (f := 9) rfl ?_); refine gL (some 22) rfl rfl Tryd.func9 (by kernel_rfl) rfl #[.string (⟨#[68, 49]⟩ : ByteArray)] rfl (by (try simp only [List.map_toArray, List.map_cons, List.map_nil]); first | done | rfl | (simp only [List.length_drop, List.length_take]; rfl)) ?_; (with_reducible refine (code_Parse.calls k (⟨#[68, 49]⟩ : ByteArray) t201 t202 t203 t204 t205 t206 _ A3.out).mono ?_); rintro e w23 ⟨rfl, hb⟩; refine ⟨_, rfl, ?_⟩; have n0_ := AM (kB (g := gb193) (o := .cells #[.int .i64 t187, .int .i64 t188, .int .i64 t189, .int .i64 t190, .bool t191] 23 (0, 0)) (by (with_reducible repeat (first | refine kD ?_ _ | refine k1_ ?_ | refine kA ?_ _)); refine kF ?_ NB193_200.out _; (with_reducible repeat (first | refine kD ?_ _ | refine k1_ ?_ | refine kA ?_ _)); refine kF ?_ NB193_200.out _; (with_reducible repeat (first | refine kD ?_ _ | refine k1_ ?_ | refine kA ?_ _)); refine kF ?_ NB193_200.out _; (with_reducible repeat (first | refine kD ?_ _ | refine k1_ ?_ | refine kA ?_ _)); refine kF ?_ NB193_200.out _; (with_reducible repeat (first | refine kD ?_ _ | refine k1_ ?_ | refine kA ?_ _)); refine kF ?_ NB193_200.out _; (with_reducible repeat (first | refine kD ?_ _ | refine k1_ ?_ | refine kA ?_ _)); exact BK193.out) hb); have n1_ := AM (kB (g := gb200) (o := .cells #[.int .i64 t194, .int .i64 t195, .int .i64 t196, .int .i64 t197, .bool t198] 23 (0, 0)) (by (with_reducible repeat (first | refine kD ?_ _ | refine k1_ ?_ | refine kA ?_ _)); refine kP (cs := #[.int .i64 t194, .int .i64 t195, .int .i64 t196, .int .i64 t197, .bool false]) ?_ 4 _ (by first | rfl | (simp only [u8w]; rfl)); (with_reducible repeat (first | refine kD ?_ _ | refine k1_ ?_ | refine kA ?_ _)); refine kP (cs := #[.int .i64 t194, .int .i64 t195, .int .i64 t196, .int .i64 0, .bool false]) ?_ 3 _ (by first | rfl | (simp only [u8w]; rfl)); (with_reducible repeat (first | refine kD ?_ _ | refine k1_ ?_ | refine kA ?_ _)); refine kP (cs := #[.int .i64 t194, .int .i64 t195, .int .i64 0, .int .i64 0, .bool false]) ?_ 2 _ (by first | rfl | (simp only [u8w]; rfl)); (with_reducible repeat (first | refine kD ?_ _ | refine k1_ ?_ | refine kA ?_ _)); refine kP (cs := #[.int .i64 t194, .int .i64 0, .int .i64 0, .int .i64 0, .bool false]) ?_ 1 _ (by first | rfl | (simp only [u8w]; rfl)); (with_reducible repeat (first | refine kD ?_ _ | refine k1_ ?_ | refine kA ?_ _)); refine kP (cs := #[.int .i64 0, .int .i64 0, .int .i64 0, .int .i64 0, .bool false]) ?_ 0 _ (by first | rfl | (simp only [u8w]; rfl)); (with_reducible repeat (first | refine kD ?_ _ | refine k1_ ?_ | refine kA ?_ _)); exact BK200.out) hb); have n2_ := AM (bT bQ hb); clear BK193; clear BK200; clear HB; have BK193 := n0_; have BK200 := n1_; have HB := n2_; clear n0_ n1_ n2_; (try clear hb); (try clear hb2); (try clear hk); (try clear hi)) | ((with_reducible refine gD (N := 5) rfl ?_); refine bE ?hg (N := 5) ?hd (cs := #[.int .i64 0, .int .i64 0, .int .i64 0, .int .i64 0, .bool false]) (t := 23) ?hr ?_; (case hd => rfl); (case hg => rfl); (case hr => first | (go_simp; done) | (go_simp; rfl)); intro gb207 hg w24 hbox hb; have n0_ := AM (kB (g := gb193) (o := .cells #[.int .i64 t187, .int .i64 t188, .int .i64 t189, .int .i64 t190, .bool t191] 23 (0, 0)) (kW BK193) hb); have n1_ := AM (kB (g := gb200) (o := .cells #[.int .i64 t194, .int .i64 t195, .int .i64 t196, .int .i64 t197, .bool t198] 23 (0, 0)) (kW BK200) hb); have n2_ := AM (bT bQ hb); have n3_ := AM (hbox); have n4_ := AM ((by rw [hg]; exact (bZ bQ) : w.heap.size ≤ gb207)); have n5_ := AM ((by rw [hg]; exact (bZ bQ) : w.heap.size ≤ gb207)); have n6_ := AM ((by rw [hg]; exact Nat.ne_of_lt (blk_lt (g := gb193) (o := .cells #[.int .i64 t187, .int .i64 t188, .int .i64 t189, .int .i64 t190, .bool t191] 23 (0, 0)) (kW BK193)) : gb193 ≠ gb207)); have n7_ := AM ((by rw [hg]; exact Nat.ne_of_gt (blk_lt (g := gb193) (o := .cells #[.int .i64 t187, .int .i64 t188, .int .i64 t189, .int .i64 t190, .bool t191] 23 (0, 0)) (kW BK193)) : gb207 ≠ gb193)); have n8_ := AM ((by rw [hg]; exact Nat.ne_of_lt (blk_lt (g := gb200) (o := .cells #[.int .i64 t194, .int .i64 t195, .int .i64 t196, .int .i64 t197, .bool t198] 23 (0, 0)) (kW BK200)) : gb200 ≠ gb207)); have n9_ := AM ((by rw [hg]; exact Nat.ne_of_gt (blk_lt (g := gb200) (o := .cells #[.int .i64 t194, .int .i64 t195, .int .i64 t196, .int .i64 t197, .bool t198] 23 (0, 0)) (kW BK200)) : gb207 ≠ gb200)); clear BK193; clear BK200; clear HB; have BK193 := n0_; have BK200 := n1_; have HB := n2_; have BK207 := n3_; have GW207 := n4_; have GE207 := n5_; have NB193_207 := n6_; have NB207_193 := n7_; have NB200_207 := n8_; have NB207_200 := n9_; clear n0_ n1_ n2_ n3_ n4_ n5_ n6_ n7_ n8_ n9_; clear hb hbox hg; have hnb25 := NB207_193.out; have hnc25 := NB193_207.out; have hnb26 := NB207_200.out; have hnc26 := NB200_207.out; obtain ⟨_, _, _, _, _, _, _, _, _, _⟩ := bX5 BK207.out; obtain ⟨_, _, _, _, _, _, _, _, _, _⟩ := bX5 BK193.out) | ((with_reducible refine gC (f := 15) rfl ?_); refine gL (some 27) rfl rfl Tryd.func15 (by kernel_rfl) rfl #[.agg #[.int .i64 t187, .int .i64 t188, .int .i64 t189, .int .i64 t190, .bool t191], .int .i64 1, .int .i64 12] rfl (by (try simp only [List.map_toArray, List.map_cons, List.map_nil]); first | done | rfl | (simp only [List.length_drop, List.length_take]; rfl)) ?_; (with_reducible refine (code_Free.calls k t187 t188 t189 t190 t191 1 12 t208 t209 _ A4.out).mono ?_); rintro e w29 ⟨rfl, hb⟩; refine ⟨_, rfl, ?_⟩; have n0_ := AM (kB (g := gb193) (o := .cells #[.int .i64 t187, .int .i64 t188, .int .i64 t189, .int .i64 t190, .bool t191] 23 (0, 0)) (by (with_reducible repeat (first | refine kD ?_ _ | refine k1_ ?_ | refine kA ?_ _)); refine kF ?_ NB193_207.out _; (with_reducible repeat (first | refine kD ?_ _ | refine k1_ ?_ | refine kA ?_ _)); refine kF ?_ NB193_207.out _; (with_reducible repeat (first | refine kD ?_ _ | refine k1_ ?_ | refine kA ?_ _)); refine kF ?_ NB193_207.out _; (with_reducible repeat (first | refine kD ?_ _ | refine k1_ ?_ | refine kA ?_ _)); refine kF ?_ NB193_207.out _; (with_reducible repeat (first | refine kD ?_ _ | refine k1_ ?_ | refine kA ?_ _)); refine kF ?_ NB193_207.out _; (with_reducible repeat (first | refine kD ?_ _ | refine k1_ ?_ | refine kA ?_ _)); exact BK193.out) hb); have n1_ := AM (kB (g := gb200) (o := .cells #[.int .i64 t194, .int .i64 t195, .int .i64 t196, .int .i64 t197, .bool t198] 23 (0, 0)) (by (with_reducible repeat (first | refine kD ?_ _ | refine k1_ ?_ | refine kA ?_ _)); refine kF ?_ NB200_207.out _; (with_reducible repeat (first | refine kD ?_ _ | refine k1_ ?_ | refine kA ?_ _)); refine kF ?_ NB200_207.out _; (with_reducible repeat (first | refine kD ?_ _ | refine k1_ ?_ | refine kA ?_ _)); refine kF ?_ NB200_207.out _; (with_reducible repeat (first | refine kD ?_ _ | refine k1_ ?_ | refine kA ?_ _)); refine kF ?_ NB200_207.out _; (with_reducible repeat (first | refine kD ?_ _ | refine k1_ ?_ | refine kA ?_ _)); refine kF ?_ NB200_207.out _; (with_reducible repeat (first | refine kD ?_ _ | refine k1_ ?_ | refine kA ?_ _)); exact BK200.out) hb); have n2_ := AM (kB (g := gb207) (o := .cells #[.int .i64 t201, .int .i64 t202, .int .i64 t203, .int .i64 t204, .bool t205] 23 (0, 0)) (by (with_reducible repeat (first | refine kD ?_ _ | refine k1_ ?_ | refine kA ?_ _)); refine kP (cs := #[.int .i64 t201, .int .i64 t202, .int .i64 t203, .int .i64 t204, .bool false]) ?_ 4 _ (by first | rfl | (simp only [u8w]; rfl)); (with_reducible repeat (first | refine kD ?_ _ | refine k1_ ?_ | refine kA ?_ _)); refine kP (cs := #[.int .i64 t201, .int .i64 t202, .int .i64 t203, .int .i64 0, .bool false]) ?_ 3 _ (by first | rfl | (simp only [u8w]; rfl)); (with_reducible repeat (first | refine kD ?_ _ | refine k1_ ?_ | refine kA ?_ _)); refine kP (cs := #[.int .i64 t201, .int .i64 t202, .int .i64 0, .int .i64 0, .bool false]) ?_ 2 _ (by first | rfl | (simp only [u8w]; rfl)); (with_reducible repeat (first | refine kD ?_ _ | refine k1_ ?_ | refine kA ?_ _)); refine kP (cs := #[.int .i64 t201, .int .i64 0, .int .i64 0, .int .i64 0, .bool false]) ?_ 1 _ (by first | rfl | (simp only [u8w]; rfl)); (with_reducible repeat (first | refine kD ?_ _ | refine k1_ ?_ | refine kA ?_ _)); refine kP (cs := #[.int .i64 0, .int .i64 0, .int .i64 0, .int .i64 0, .bool false]) ?_ 0 _ (by first | rfl | (simp only [u8w]; rfl)); (with_reducible repeat (first | refine kD ?_ _ | refine k1_ ?_ | refine kA ?_ _)); exact BK207.out) hb); have n3_ := AM (bT bQ hb); clear BK193; clear BK200; clear BK207; clear HB; have BK193 := n0_; have BK200 := n1_; have BK207 := n2_; have HB := n3_; clear n0_ n1_ n2_ n3_; (try clear hb); (try clear hb2); (try clear hk); (try clear hi); obtain ⟨_, _, _, _, _, _, _, _, _, _⟩ := bX5 BK200.out) | ((with_reducible refine gC (f := 15) rfl ?_); refine gL (some 32) rfl rfl Tryd.func15 (by kernel_rfl) rfl #[.agg #[.int .i64 t194, .int .i64 t195, .int .i64 t196, .int .i64 t197, .bool t198], .int .i64 1, .int .i64 12] rfl (by (try simp only [List.map_toArray, List.map_cons, List.map_nil]); first | done | rfl | (simp only [List.length_drop, List.length_take]; rfl)) ?_; (with_reducible refine (code_Free.calls k t194 t195 t196 t197 t198 1 12 t210 t211 _ A5.out).mono ?_); rintro e w31 ⟨rfl, hb⟩; refine ⟨_, rfl, ?_⟩; have n0_ := AM (kB (g := gb193) (o := .cells #[.int .i64 t187, .int .i64 t188, .int .i64 t189, .int .i64 t190, .bool t191] 23 (0, 0)) (kW BK193) hb); have n1_ := AM (kB (g := gb200) (o := .cells #[.int .i64 t194, .int .i64 t195, .int .i64 t196, .int .i64 t197, .bool t198] 23 (0, 0)) (kW BK200) hb); have n2_ := AM (kB (g := gb207) (o := .cells #[.int .i64 t201, .int .i64 t202, .int .i64 t203, .int .i64 t204, .bool t205] 23 (0, 0)) (kW BK207) hb); have n3_ := AM (bT bQ hb); clear BK193; clear BK200; clear BK207; clear HB; have BK193 := n0_; have BK200 := n1_; have BK207 := n2_; have HB := n3_; clear n0_ n1_ n2_ n3_; (try clear hb); (try clear hb2); (try clear hk); (try clear hi); obtain ⟨_, _, _, _, _, _, _, _, _, _⟩ := bX5 BK193.out) | ((with_reducible refine gC (f := 17) rfl ?_); refine gL (some 37) rfl rfl Tryd.func17 (by kernel_rfl) rfl #[.agg #[.int .i64 t187, .int .i64 t188, .int .i64 t189, .int .i64 t190, .bool t191], .int .i64 2000000, .int .i64 12, .int .i64 12] rfl (by (try simp only [List.map_toArray, List.map_cons, List.map_nil]); first | done | rfl | (simp only [List.length_drop, List.length_take]; rfl)) ?_; (with_reducible refine (code_Charge.calls k t187 t188 t189 t190 t191 2000000 12 12 t212 t213 _ A6.out).mono ?_); rintro e w33 ⟨rfl, hb⟩; refine ⟨_, rfl, ?_⟩; have n0_ := AM (kB (g := gb193) (o := .cells #[.int .i64 t187, .int .i64 t188, .int .i64 t189, .int .i64 t190, .bool t191] 23 (0, 0)) (kW BK193) hb); have n1_ := AM (kB (g := gb200) (o := .cells #[.int .i64 t194, .int .i64 t195, .int .i64 t196, .int .i64 t197, .bool t198] 23 (0, 0)) (kW BK200) hb); have n2_ := AM (kB (g := gb207) (o := .cells #[.int .i64 t201, .int .i64 t202, .int .i64 t203, .int .i64 t204, .bool t205] 23 (0, 0)) (kW BK207) hb); have n3_ := AM (bT bQ hb); clear BK193; clear BK200; clear BK207; clear HB; have BK193 := n0_; have BK200 := n1_; have BK207 := n2_; have HB := n3_; clear n0_ n1_ n2_ n3_; (try clear hb); (try clear hb2); (try clear hk); (try clear hi); obtain ⟨_, _, _, _, _, _, _, _, _, _⟩ := bX5 BK193.out; obtain ⟨_, _, _, _, _, _, _, _, _, _⟩ := bX5 BK200.out; obtain ⟨_, _, _, _, _, _, _, _, _, _⟩ := bX5 BK207.out) | (go_at_call 11; (with_reducible refine (code_Text.calls k t194 t195 t196 t197 t198 t214 _ A14.out (tQ htb)).mono ?_); rintro e w37 ⟨rfl, hb⟩; have n0_ := AM (kB (g := gb193) (o := .cells #[.int .i64 t187, .int .i64 t188, .int .i64 t189, .int .i64 t190, .bool t191] 23 (0, 0)) (kW BK193) hb); have n1_ := AM (kB (g := gb200) (o := .cells #[.int .i64 t194, .int .i64 t195, .int .i64 t196, .int .i64 t197, .bool t198] 23 (0, 0)) (kW BK200) hb); have n2_ := AM (kB (g := gb207) (o := .cells #[.int .i64 t201, .int .i64 t202, .int .i64 t203, .int .i64 t204, .bool t205] 23 (0, 0)) (kW BK207) hb); have n3_ := AM (bT bQ hb); clear BK193; clear BK200; clear BK207; clear HB; have BK193 := n0_; have BK200 := n1_; have BK207 := n2_; have HB := n3_; clear n0_ n1_ n2_ n3_; (try clear hb); (try clear hb2); (try clear hk); (try clear hi)))
  go_ret
  exact ⟨by first | rfl | (simp [errW_none, errW_some] <;> rfl) | (simp [*, errW_none, errW_some] <;> rfl), by repeat (first | (with_reducible first | exact HB.out | apply bA | apply bD | apply b1 | refine bS ?_ GE193.out | refine bS ?_ GE200.out | refine bS ?_ GE207.out) | exact HB.out)⟩
def stipendlaw08_codes.f  : Option (Bool) := some true
theorem codesR.ok : ∃ k, codesR.f k = some true := ⟨64, by decide +kernel⟩
theorem stipendlaw08_codes.calls (r : Bool) (w : World) (h : stipendlaw08_codes.f = some r) (htb : TB w) :
    Calls Tryd.prog 16 #[] w fun e w' => e = .returned (.bool r) ∧ Below w.heap.size w w' := by
  obtain ⟨k, hk⟩ := codesR.ok
  obtain rfl := Option.some.inj (show some true = some r from h)
  exact (codesR.calls k true w rfl hk htb)

end Go.Proofs.YtodijkdmcjnpkaaDoor.K
