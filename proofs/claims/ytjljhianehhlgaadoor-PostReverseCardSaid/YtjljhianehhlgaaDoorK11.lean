import Derived.Test.YtjljhianehhlgaaDoorQ0
import Derived.Test.YtjljhianehhlgaaDoorQ1
import Derived.Test.YtjljhianehhlgaaDoorQ6
import Derived.Test.YtjljhianehhlgaaDoorKB
namespace Go.Proofs.YtjljhianehhlgaaDoor.K
open Go.RowKit Go.Proofs.YtjljhianehhlgaaDoorW.PrintWords Go.Proofs.YtjljhianehhlgaaDoorW.PrintLast Go.Proofs.YtjljhianehhlgaaDoorW.PrintMore
attribute [local go_sem] max2_int min2_int max_two min_two max_three min_three max_four min_four   -- for this text's walks alone
set_option linter.unusedVariables false
set_option linter.unusedSimpArgs false

attribute [local go_sem high] eqA31
/-! ### books: as the print calls it -/
def booksP.f : Option (Bool) := some true
theorem booksP.calls (r : Bool) (w : World) (h : booksP.f = some r) (htb : TB w) :
    Calls Tryd.prog 9 #[] w fun e w' => e = .returned (.bool r) ∧ Below w.heap.size w w' := by
  obtain rfl := Option.some.inj h
  exact stipendlaw22_books.calls w htb

/-! ### stipendlaw22_PostReverse: function 4 -/
mutual
def stipendlaw22_PostReverse.j0 : Nat → List (S31) → List (S31) → List (S31) → Bool → Option (Bool)
  | 0, _, _, _, _ => none
  | k + 1, x0, x3, x4, x27 => if x27 = true then (some false) else (stipendlaw22_PostReverse.l0 k x0 x3 x4 x0 (x0.length : Int) 0)
def stipendlaw22_PostReverse.l0 : Nat → List (S31) → List (S31) → List (S31) → List (S31) → Int → Int → Option (Bool)
  | 0, _, _, _, _, _, _ => none
  | k + 1, x0, x3, x4, x28, x29, x30 => if x30 < x29 then (if 0 ≤ x30 then (if x30 < (x28.length : Int) then (if ((rd_T31 x28 x30).f1) = (-9223372036854775808) then (some true) else (if x30 < (x4.length : Int) then (if (!((((rd_T31 x4 x30).f0).toList) == (((rd_T31 x28 x30).f0).toList)) || (!(((rd_T31 x4 x30).f1) == ((rd_T31 x28 x30).f1)))) = true then (some false) else (if x30 < (x3.length : Int) then (if (!((((rd_T31 x3 x30).f0).toList) == (((rd_T31 x28 x30).f0).toList)) || (!(((rd_T31 x3 x30).f1) == (wrap64 (-((rd_T31 x28 x30).f1)))))) = true then (some false) else (stipendlaw22_PostReverse.l0 k x0 x3 x4 x28 x29 (wrap64 (x30 + 1)))) else (none))) else (none))) else (none)) else (none)) else ((post_Check.f k x0).bind fun t229 => ((post_Check.f k x3).bind fun t230 => (some ((t229 == 0) == (t230 == 0)))))
end
def stipendlaw22_PostReverse.f (k : Nat) (l0 : List (S31)) : Option (Bool) := (booksP.f).bind fun t222 => (if t222 = true then (if (l0.length : Int) > 40 then (some true) else ((post_Reverse.f k l0).bind fun t223 => ((post_Reverse.f k t223).bind fun t226 => (if (t223.length : Int) = (l0.length : Int) then (stipendlaw22_PostReverse.j0 k l0 t223 t226 ((t226.length : Int) != (l0.length : Int))) else (stipendlaw22_PostReverse.j0 k l0 t223 t226 true))))) else (some false))
set_option maxHeartbeats 8000000 in
set_option maxRecDepth 100000 in
theorem stipendlaw22_PostReverse.calls (k : Nat) (A0 : Option Addr) (c0 : Nat) (l0 : List (S31)) (r : Bool) (w : World) (hr0 : Kd.C k31 w A0 l0.length l0) (hc0 : l0.length ≤ c0) (hrt : r = true) (h : stipendlaw22_PostReverse.f k l0 = some r) (htb : TB w) :
    Calls Tryd.prog 4 #[.slice A0 l0.length c0] w fun e w' => e = .returned (.bool r) ∧ Below w.heap.size w w' := by
  have HRT := AM hrt
  clear hrt
  have hu31 := Tryd.underlying31
  have HR0 := AM hr0
  have HC0 := AM hc0
  clear hr0 hc0
  have HB := AM (Below.refl w.heap.size w)
  have H : ((booksP.f).bind fun t222 => (if t222 = true then (if (l0.length : Int) > 40 then (some true) else ((post_Reverse.f k l0).bind fun t223 => ((post_Reverse.f k t223).bind fun t226 => (if (t223.length : Int) = (l0.length : Int) then (stipendlaw22_PostReverse.j0 k l0 t223 t226 ((t226.length : Int) != (l0.length : Int))) else (stipendlaw22_PostReverse.j0 k l0 t223 t226 true))))) else (some false))) = some r := h
  clear h
  replace H := Option.bind_eq_some_iff.mp H
  obtain ⟨t222, A20, H⟩ := H
  replace H : (if t222 = true then (if (l0.length : Int) > 40 then (some true) else ((post_Reverse.f k l0).bind fun t223 => ((post_Reverse.f k t223).bind fun t226 => (if (t223.length : Int) = (l0.length : Int) then (stipendlaw22_PostReverse.j0 k l0 t223 t226 ((t226.length : Int) != (l0.length : Int))) else (stipendlaw22_PostReverse.j0 k l0 t223 t226 true))))) else (some false)) = some r := H
  have A2 := AM A20
  clear A20
  by_cases c3 : t222 = true
  rotate_left
  · replace c3 := Bool.eq_false_iff.mpr c3
    subst c3
    have H1 : (some false) = some r := by rw [if_neg (show ¬ (false = true) by decide)] at H; exact H
    clear H
    have H := H1
    clear H1
    exact absurd (Option.some.inj H) (by rw [HRT.out]; decide)

  subst c3
  have H1 : (if (l0.length : Int) > 40 then (some true) else ((post_Reverse.f k l0).bind fun t223 => ((post_Reverse.f k t223).bind fun t226 => (if (t223.length : Int) = (l0.length : Int) then (stipendlaw22_PostReverse.j0 k l0 t223 t226 ((t226.length : Int) != (l0.length : Int))) else (stipendlaw22_PostReverse.j0 k l0 t223 t226 true))))) = some r := by rw [if_pos rfl] at H; exact H
  clear H
  have H := H1
  clear H1
  by_cases c4 : (l0.length : Int) > 40
  · rw [if_pos c4] at H
    have c4b0 : decide (40 < (l0.length : Int)) = true := decide_eq_true c4
    have c4b1 : decide (40 < l0.length) = true := decide_eq_true (by omega)
    clear c4
    obtain rfl := Option.some.inj H
    go_enter Tryd.func4, Tryd.ntmps4
    go_wp2_with (first | (go_at_call 9; (with_reducible refine (booksP.calls  true _ A2.out (tQ htb)).mono ?_); rintro e w5 ⟨rfl, hb⟩; have n0_ := AM (bT bQ hb); clear HB; have HB := n0_; clear n0_; (try clear hb); (try clear hb2); (try clear hk); (try clear hi)))
    repeat (go_quiet (first | (go_at_call 9; (with_reducible refine (booksP.calls  true _ A2.out (tQ htb)).mono ?_); rintro e w5 ⟨rfl, hb⟩; have n0_ := AM (bT bQ hb); clear HB; have HB := n0_; clear n0_; (try clear hb); (try clear hb2); (try clear hk); (try clear hi))); try go_wp2_with (first | (go_at_call 9; (with_reducible refine (booksP.calls  true _ A2.out (tQ htb)).mono ?_); rintro e w5 ⟨rfl, hb⟩; have n0_ := AM (bT bQ hb); clear HB; have HB := n0_; clear n0_; (try clear hb); (try clear hb2); (try clear hk); (try clear hi))))
    go_ret
    exact ⟨by first | rfl | (simp [errW_none, errW_some] <;> rfl) | (simp [*, errW_none, errW_some] <;> rfl), by repeat (first | (with_reducible first | exact HB.out | apply bA | apply bD | apply b1) | exact HB.out)⟩
  rw [if_neg c4] at H
  have c4b0 : decide (40 < (l0.length : Int)) = false := decide_eq_false c4
  have c4b1 : decide (40 < l0.length) = false := decide_eq_false (by omega)
  clear c4
  replace H := Option.bind_eq_some_iff.mp H
  obtain ⟨t223, A60, H⟩ := H
  replace H : ((post_Reverse.f k t223).bind fun t226 => (if (t223.length : Int) = (l0.length : Int) then (stipendlaw22_PostReverse.j0 k l0 t223 t226 ((t226.length : Int) != (l0.length : Int))) else (stipendlaw22_PostReverse.j0 k l0 t223 t226 true))) = some r := H
  have A6 := AM A60
  clear A60
  replace H := Option.bind_eq_some_iff.mp H
  obtain ⟨t226, A70, H⟩ := H
  replace H : (if (t223.length : Int) = (l0.length : Int) then (stipendlaw22_PostReverse.j0 k l0 t223 t226 ((t226.length : Int) != (l0.length : Int))) else (stipendlaw22_PostReverse.j0 k l0 t223 t226 true)) = some r := H
  have A7 := AM A70
  clear A70
  have HC8 := AM H
  clear H
  go_enter Tryd.func4, Tryd.ntmps4
  go_upto_region 7 with (first | (go_at_call 9; (with_reducible refine (booksP.calls  true _ A2.out (tQ htb)).mono ?_); rintro e w9 ⟨rfl, hb⟩; have n0_ := AM (bT bQ hb); clear HB; have HB := n0_; clear n0_; (try clear hb); (try clear hb2); (try clear hk); (try clear hi)) | (go_at_call 16; (with_reducible refine (post_Reverse.calls k _ _ l0 t223 _ ?side1 ?side2 A6.out).mono ?_); (case side1 => exact cQ HR0 HB); (case side2 => exact HC0.out); rintro e w10 ⟨v224, rfl, ho0, hb⟩; have n0_ := AM (Kd.R_lower ho0 (bZ bQ)); have n1_ := AM (bT bQ hb); clear HB; have HO225 := n0_; have HB := n1_; clear n0_ n1_; (try clear hb); (try clear hb2); (try clear hk); (try clear hi); (try clear ho0); obtain ⟨Ao11, co11, eo11⟩ := Kd.R_slice HO225.out; subst eo11) | (go_at_call 16; (with_reducible refine (post_Reverse.calls k _ _ t223 t226 _ ?side1 ?side2 A7.out).mono ?_); (case side1 => repeat (first | exact (Kd.R_reads' HO225.out).2.2 | (with_reducible refine cA ?_ _) | (with_reducible refine cD ?_ _) | (with_reducible refine c1_ ?_))); (case side2 => exact (Kd.R_reads' HO225.out).2.1); rintro e w12 ⟨v227, rfl, ho0, hb⟩; have n0_ := AM (Kd.R_elder' (by (with_reducible repeat (first | apply rA | apply rD | apply r1x)); exact HO225.out) (Kd.R_base ho0) hb); have n1_ := AM (Kd.R_lower (Kd.R_new' ho0 (Kd.R_lt (by (with_reducible repeat (first | apply rA | apply rD | apply r1x)); exact HO225.out))) (bZ bQ)); have n2_ := AM (bT bQ hb); clear HO225; clear HB; have HO225 := n0_; have HO228 := n1_; have HB := n2_; clear n0_ n1_ n2_; (try clear hb); (try clear hb2); (try clear hk); (try clear hi); (try clear ho0)))
  repeat (go_quiet (first | (go_at_call 9; (with_reducible refine (booksP.calls  true _ A2.out (tQ htb)).mono ?_); rintro e w9 ⟨rfl, hb⟩; have n0_ := AM (bT bQ hb); clear HB; have HB := n0_; clear n0_; (try clear hb); (try clear hb2); (try clear hk); (try clear hi)) | (go_at_call 16; (with_reducible refine (post_Reverse.calls k _ _ l0 t223 _ ?side1 ?side2 A6.out).mono ?_); (case side1 => exact cQ HR0 HB); (case side2 => exact HC0.out); rintro e w10 ⟨v224, rfl, ho0, hb⟩; have n0_ := AM (Kd.R_lower ho0 (bZ bQ)); have n1_ := AM (bT bQ hb); clear HB; have HO225 := n0_; have HB := n1_; clear n0_ n1_; (try clear hb); (try clear hb2); (try clear hk); (try clear hi); (try clear ho0); obtain ⟨Ao11, co11, eo11⟩ := Kd.R_slice HO225.out; subst eo11) | (go_at_call 16; (with_reducible refine (post_Reverse.calls k _ _ t223 t226 _ ?side1 ?side2 A7.out).mono ?_); (case side1 => repeat (first | exact (Kd.R_reads' HO225.out).2.2 | (with_reducible refine cA ?_ _) | (with_reducible refine cD ?_ _) | (with_reducible refine c1_ ?_))); (case side2 => exact (Kd.R_reads' HO225.out).2.1); rintro e w12 ⟨v227, rfl, ho0, hb⟩; have n0_ := AM (Kd.R_elder' (by (with_reducible repeat (first | apply rA | apply rD | apply r1x)); exact HO225.out) (Kd.R_base ho0) hb); have n1_ := AM (Kd.R_lower (Kd.R_new' ho0 (Kd.R_lt (by (with_reducible repeat (first | apply rA | apply rD | apply r1x)); exact HO225.out))) (bZ bQ)); have n2_ := AM (bT bQ hb); clear HO225; clear HB; have HO225 := n0_; have HO228 := n1_; have HB := n2_; clear n0_ n1_ n2_; (try clear hb); (try clear hb2); (try clear hk); (try clear hi); (try clear ho0))); go_upto_region 7 with (first | (go_at_call 9; (with_reducible refine (booksP.calls  true _ A2.out (tQ htb)).mono ?_); rintro e w9 ⟨rfl, hb⟩; have n0_ := AM (bT bQ hb); clear HB; have HB := n0_; clear n0_; (try clear hb); (try clear hb2); (try clear hk); (try clear hi)) | (go_at_call 16; (with_reducible refine (post_Reverse.calls k _ _ l0 t223 _ ?side1 ?side2 A6.out).mono ?_); (case side1 => exact cQ HR0 HB); (case side2 => exact HC0.out); rintro e w10 ⟨v224, rfl, ho0, hb⟩; have n0_ := AM (Kd.R_lower ho0 (bZ bQ)); have n1_ := AM (bT bQ hb); clear HB; have HO225 := n0_; have HB := n1_; clear n0_ n1_; (try clear hb); (try clear hb2); (try clear hk); (try clear hi); (try clear ho0); obtain ⟨Ao11, co11, eo11⟩ := Kd.R_slice HO225.out; subst eo11) | (go_at_call 16; (with_reducible refine (post_Reverse.calls k _ _ t223 t226 _ ?side1 ?side2 A7.out).mono ?_); (case side1 => repeat (first | exact (Kd.R_reads' HO225.out).2.2 | (with_reducible refine cA ?_ _) | (with_reducible refine cD ?_ _) | (with_reducible refine c1_ ?_))); (case side2 => exact (Kd.R_reads' HO225.out).2.1); rintro e w12 ⟨v227, rfl, ho0, hb⟩; have n0_ := AM (Kd.R_elder' (by (with_reducible repeat (first | apply rA | apply rD | apply r1x)); exact HO225.out) (Kd.R_base ho0) hb); have n1_ := AM (Kd.R_lower (Kd.R_new' ho0 (Kd.R_lt (by (with_reducible repeat (first | apply rA | apply rD | apply r1x)); exact HO225.out))) (bZ bQ)); have n2_ := AM (bT bQ hb); clear HO225; clear HB; have HO225 := n0_; have HO228 := n1_; have HB := n2_; clear n0_ n1_ n2_; (try clear hb); (try clear hb2); (try clear hk); (try clear hi); (try clear ho0))))
  (try simp only [Act.put, List.setIfInBounds_toArray, List.set_cons_zero, List.set_cons_succ])
  go_cut [27] (fun v27 wc => ∃ (kq : Nat) (x27_7 : Bool), v27 = .bool x27_7 ∧ Aside0 (stipendlaw22_PostReverse.j0 kq l0 t223 t226 x27_7 = some r) ∧ Aside0 (kq ≤ k) ∧ Aside0 (Kd.R k31 31 wc w.heap.size (fun k_ => some k_ ≠ (v227 : Value).ownBlock) (.slice Ao11 t223.length co11) t223) ∧ Aside0 (Kd.R k31 31 wc w.heap.size (fun k_ => some k_ ≠ ((.slice Ao11 t223.length co11) : Value).ownBlock) v227 t226) ∧ Aside0 (Below w.heap.size w wc))
  case first =>
    have H := HC8.out
    clear HC8
    by_cases c13 : (t223.length : Int) = (l0.length : Int)
    rotate_left
    · rw [if_neg c13] at H
      have c13b0 : ((t223.length : Int) == (l0.length : Int)) = false := beq_eq_false_iff_ne.mpr c13
      have c13b1 : ((t223.length : Int) != (l0.length : Int)) = true := bne_iff_ne.mpr c13
      have c13b2 : (t223.length == l0.length) = false := by first | simpa using c13 | (simp at c13 ⊢; omega)
      (first | rw [c13b0] | (simp only [i64_w, i32_w]; rw [c13b0]) | skip)
      have H' := AM H
      clear H
      go_wp2
      repeat (go_quiet (fail); try go_wp2)
      go_meet
      case rel => exact ⟨_, (true), (by first | rfl | (simp; done) | (simp [*]; done)), H', ⟨by first | omega | exact Nat.le_refl _⟩, ⟨by (with_reducible repeat (first | apply rA | apply rD | apply r1x)); exact Kd.R_mono HO225.out (fun _ hk => hk.2)⟩, ⟨by (with_reducible repeat (first | apply rA | apply rD | apply r1x)); exact Kd.R_mono HO228.out (fun _ hk => hk.2)⟩, ⟨by repeat (first | (with_reducible first | exact HB.out | apply bA | apply bD | apply b1) | exact HB.out)⟩⟩
    rw [if_pos c13] at H
    have c13b0 : ((t223.length : Int) == (l0.length : Int)) = true := beq_iff_eq.mpr c13
    have c13b1 : ((t223.length : Int) != (l0.length : Int)) = false := bne_eq_false_iff_eq.mpr c13
    have c13b2 : (t223.length == l0.length) = true := by first | simpa using c13 | (simp at c13 ⊢; omega)
    clear c13
    (first | rw [c13b0] | (simp only [i64_w, i32_w]; rw [c13b0]) | skip)
    have H' := AM H
    clear H
    obtain ⟨Ao14, co14, eo14⟩ := Kd.R_slice HO228.out
    subst eo14
    go_wp2
    repeat (go_quiet (fail); try go_wp2)
    go_meet
    case rel => exact ⟨_, (((t226.length : Int) != (l0.length : Int))), (by first | rfl | (simp; done) | (simp [*]; done)), H', ⟨by first | omega | exact Nat.le_refl _⟩, ⟨by (with_reducible repeat (first | apply rA | apply rD | apply r1x)); exact Kd.R_mono HO225.out (fun _ hk => hk.2)⟩, ⟨by (with_reducible repeat (first | apply rA | apply rD | apply r1x)); exact Kd.R_mono HO228.out (fun _ hk => hk.2)⟩, ⟨by repeat (first | (with_reducible first | exact HB.out | apply bA | apply bD | apply b1) | exact HB.out)⟩⟩
  case rest =>
    clear HC8
    obtain ⟨kq, x27_7, rfl, HA, HJ7, HO_3, HO_4, HB⟩ := hcut
    cases kq with
    | zero => exact absurd HA.out (by simp [stipendlaw22_PostReverse.j0])
    | succ kj7 =>
      have H := HA.out
      clear HA
      simp only [stipendlaw22_PostReverse.j0] at H
      by_cases c15 : x27_7 = true
      · subst c15
        have H1 : (some false) = some r := by rw [if_pos rfl] at H; exact H
        clear H
        have H := H1
        clear H1
        exact absurd (Option.some.inj H) (by rw [HRT.out]; decide)
      replace c15 := Bool.eq_false_iff.mpr c15
      subst c15
      have H1 : (stipendlaw22_PostReverse.l0 kj7 l0 t223 t226 l0 (l0.length : Int) 0) = some r := by rw [if_neg (show ¬ (false = true) by decide)] at H; exact H
      clear H
      have H := H1
      clear H1
      have H' := AM H
      clear H
      go_wp2
      repeat (go_quiet (fail); try go_wp2)
      go_loopg [30] kj7 (fun kq v30 w' => ∃ (x30_2 : Int), v30 = .int .i64 x30_2 ∧ Aside0 (stipendlaw22_PostReverse.l0 kq l0 t223 t226 l0 (l0.length : Int) x30_2 = some r) ∧ Aside0 (kq ≤ kj7) ∧ Aside0 (Kd.R k31 31 w' w.heap.size (fun k_ => some k_ ≠ (v227 : Value).ownBlock) (.slice Ao11 t223.length co11) t223) ∧ Aside0 (Kd.R k31 31 w' w.heap.size (fun k_ => some k_ ≠ ((.slice Ao11 t223.length co11) : Value).ownBlock) v227 t226) ∧ Aside0 (Below w.heap.size w w'))
      case atStart => exact ⟨(0), (by first | rfl | (simp; done) | (simp [*]; done)), H', ⟨Nat.le_refl _⟩, ⟨by (with_reducible repeat (first | apply rA | apply rD | apply r1x)); exact HO_3.out⟩, ⟨by (with_reducible repeat (first | apply rA | apply rD | apply r1x)); exact HO_4.out⟩, ⟨by repeat (first | (with_reducible first | exact HB.out | apply bA | apply bD | apply b1) | exact HB.out)⟩⟩
      case round =>
        clear H'
        obtain ⟨x30_2, rfl, HA, HK2, HO_3, HO_4, HB⟩ := hrel
        cases gk with
        | zero => exact absurd HA.out (by simp [stipendlaw22_PostReverse.l0])
        | succ k2 =>
          have H := HA.out
          clear HA
          simp only [stipendlaw22_PostReverse.l0] at H
          by_cases c16 : x30_2 < (l0.length : Int)
          rotate_left
          · rw [if_neg c16] at H
            have c16b0 := decide_eq_false c16
            clear c16
            replace H := Option.bind_eq_some_iff.mp H
            obtain ⟨t229, A290, H⟩ := H
            replace H : ((post_Check.f k2 t223).bind fun t230 => (some ((t229 == 0) == (t230 == 0)))) = some r := H
            have A29 := AM A290
            clear A290
            replace H := Option.bind_eq_some_iff.mp H
            obtain ⟨t230, A300, H⟩ := H
            replace H : (some ((t229 == 0) == (t230 == 0))) = some r := H
            have A30 := AM A300
            clear A300
            obtain rfl := Option.some.inj H
            go_wp2_with (first | (go_at_call 11; (with_reducible refine (post_Check.calls k2 _ _ l0 t229 _ ?side1 ?side2 A29.out).mono ?_); (case side1 => exact cQ HR0 HB); (case side2 => exact HC0.out); rintro e w31 ⟨rfl, hb⟩; have n0_ := AM (Kd.R_below (by (with_reducible repeat (first | apply rA | apply rD | apply r1x)); exact HO_3.out) hb); have n1_ := AM (Kd.R_below (by (with_reducible repeat (first | apply rA | apply rD | apply r1x)); exact HO_4.out) hb); have n2_ := AM (bT bQ hb); clear HO_3; clear HO_4; clear HB; have HO_3 := n0_; have HO_4 := n1_; have HB := n2_; clear n0_ n1_ n2_; (try clear hb); (try clear hb2); (try clear hk); (try clear hi)) | (go_at_call 11; (with_reducible refine (post_Check.calls k2 _ _ t223 t230 _ ?side1 ?side2 A30.out).mono ?_); (case side1 => repeat (first | exact (Kd.R_reads' HO_3.out).2.2 | (with_reducible refine cA ?_ _) | (with_reducible refine cD ?_ _) | (with_reducible refine c1_ ?_))); (case side2 => exact (Kd.R_reads' HO_3.out).2.1); rintro e w32 ⟨rfl, hb⟩; have n0_ := AM (Kd.R_below (by (with_reducible repeat (first | apply rA | apply rD | apply r1x)); exact HO_3.out) hb); have n1_ := AM (Kd.R_below (by (with_reducible repeat (first | apply rA | apply rD | apply r1x)); exact HO_4.out) hb); have n2_ := AM (bT bQ hb); clear HO_3; clear HO_4; clear HB; have HO_3 := n0_; have HO_4 := n1_; have HB := n2_; clear n0_ n1_ n2_; (try clear hb); (try clear hb2); (try clear hk); (try clear hi)))
            repeat (go_quiet (first | (go_at_call 11; (with_reducible refine (post_Check.calls k2 _ _ l0 t229 _ ?side1 ?side2 A29.out).mono ?_); (case side1 => exact cQ HR0 HB); (case side2 => exact HC0.out); rintro e w31 ⟨rfl, hb⟩; have n0_ := AM (Kd.R_below (by (with_reducible repeat (first | apply rA | apply rD | apply r1x)); exact HO_3.out) hb); have n1_ := AM (Kd.R_below (by (with_reducible repeat (first | apply rA | apply rD | apply r1x)); exact HO_4.out) hb); have n2_ := AM (bT bQ hb); clear HO_3; clear HO_4; clear HB; have HO_3 := n0_; have HO_4 := n1_; have HB := n2_; clear n0_ n1_ n2_; (try clear hb); (try clear hb2); (try clear hk); (try clear hi)) | (go_at_call 11; (with_reducible refine (post_Check.calls k2 _ _ t223 t230 _ ?side1 ?side2 A30.out).mono ?_); (case side1 => repeat (first | exact (Kd.R_reads' HO_3.out).2.2 | (with_reducible refine cA ?_ _) | (with_reducible refine cD ?_ _) | (with_reducible refine c1_ ?_))); (case side2 => exact (Kd.R_reads' HO_3.out).2.1); rintro e w32 ⟨rfl, hb⟩; have n0_ := AM (Kd.R_below (by (with_reducible repeat (first | apply rA | apply rD | apply r1x)); exact HO_3.out) hb); have n1_ := AM (Kd.R_below (by (with_reducible repeat (first | apply rA | apply rD | apply r1x)); exact HO_4.out) hb); have n2_ := AM (bT bQ hb); clear HO_3; clear HO_4; clear HB; have HO_3 := n0_; have HO_4 := n1_; have HB := n2_; clear n0_ n1_ n2_; (try clear hb); (try clear hb2); (try clear hk); (try clear hi))); try go_wp2_with (first | (go_at_call 11; (with_reducible refine (post_Check.calls k2 _ _ l0 t229 _ ?side1 ?side2 A29.out).mono ?_); (case side1 => exact cQ HR0 HB); (case side2 => exact HC0.out); rintro e w31 ⟨rfl, hb⟩; have n0_ := AM (Kd.R_below (by (with_reducible repeat (first | apply rA | apply rD | apply r1x)); exact HO_3.out) hb); have n1_ := AM (Kd.R_below (by (with_reducible repeat (first | apply rA | apply rD | apply r1x)); exact HO_4.out) hb); have n2_ := AM (bT bQ hb); clear HO_3; clear HO_4; clear HB; have HO_3 := n0_; have HO_4 := n1_; have HB := n2_; clear n0_ n1_ n2_; (try clear hb); (try clear hb2); (try clear hk); (try clear hi)) | (go_at_call 11; (with_reducible refine (post_Check.calls k2 _ _ t223 t230 _ ?side1 ?side2 A30.out).mono ?_); (case side1 => repeat (first | exact (Kd.R_reads' HO_3.out).2.2 | (with_reducible refine cA ?_ _) | (with_reducible refine cD ?_ _) | (with_reducible refine c1_ ?_))); (case side2 => exact (Kd.R_reads' HO_3.out).2.1); rintro e w32 ⟨rfl, hb⟩; have n0_ := AM (Kd.R_below (by (with_reducible repeat (first | apply rA | apply rD | apply r1x)); exact HO_3.out) hb); have n1_ := AM (Kd.R_below (by (with_reducible repeat (first | apply rA | apply rD | apply r1x)); exact HO_4.out) hb); have n2_ := AM (bT bQ hb); clear HO_3; clear HO_4; clear HB; have HO_3 := n0_; have HO_4 := n1_; have HB := n2_; clear n0_ n1_ n2_; (try clear hb); (try clear hb2); (try clear hk); (try clear hi))))
            go_ret
            exact ⟨by first | rfl | (simp [errW_none, errW_some] <;> rfl) | (simp [*, errW_none, errW_some] <;> rfl), by repeat (first | (with_reducible first | exact HB.out | apply bA | apply bD | apply b1) | exact HB.out)⟩
          rw [if_pos c16] at H
          have c16b0 := decide_eq_true c16
          clear c16
          by_cases c17 : 0 ≤ x30_2
          rotate_left
          · rw [if_neg c17] at H
            exact absurd H (by simp)
          rw [if_pos c17] at H
          have c17b0 := decide_eq_true c17
          clear c17
          by_cases c18 : x30_2 < (l0.length : Int)
          rotate_left
          · rw [if_neg c18] at H
            exact absurd H (by simp)
          rw [if_pos c18] at H
          have c18b0 := decide_eq_true c18
          clear c18
          by_cases c19 : ((rd_T31 l0 x30_2).f1) = (-9223372036854775808)
          · rw [if_pos c19] at H
            have c19b0 : (((rd_T31 l0 x30_2).f1) == (-9223372036854775808)) = true := beq_iff_eq.mpr c19
            have c19b1 : (((rd_T31 l0 x30_2).f1) != (-9223372036854775808)) = false := bne_eq_false_iff_eq.mpr c19
            clear c19
            obtain rfl := Option.some.inj H
            have p231 : 0 ≤ (x30_2 : Int) := of_decide_eq_true (by first | (with_reducible assumption) | assumption)
            have q231 : x30_2 < (l0.length : Int) := of_decide_eq_true (by first | (with_reducible assumption) | assumption)
            obtain ⟨ad231, e231, hx231_0, hx231_1⟩ := at_T31 HR0.out x30_2 p231 q231
            cases e231
            replace hx231_0 := (HB.out.cell (bL w _ hx231_0)).trans hx231_0
            replace hx231_1 := (HB.out.cell (bL w _ hx231_1)).trans hx231_1
            replace p231 := eq_true p231
            replace q231 := eq_true q231
            go_wp2_with (first | ((with_reducible refine gD (N := 6) rfl ?_); (try (refine gG (by rfl) ?_; dsimp only)); refine bE ?hg (N := 6) ?hd (cs := #[.string (⟨#[]⟩ : ByteArray), .int .i64 0]) (t := 31) ?hr ?_; (case hd => rfl); (case hg => rfl); (case hr => first | (go_simp; done) | (go_simp; rfl)); intro gb232 hg w20 hbox hb; have n0_ := AM (Kd.R_below (Kd.R_elderB (by (with_reducible repeat (first | apply rA | apply rD | apply r1x)); exact HO_3.out) gb232 (Nat.le_of_eq hg.symm)) hb); have n1_ := AM (Kd.R_below (Kd.R_elderB (by (with_reducible repeat (first | apply rA | apply rD | apply r1x)); exact HO_4.out) gb232 (Nat.le_of_eq hg.symm)) hb); have n2_ := AM (bT bQ hb); have n3_ := AM (hbox); have n4_ := AM ((by rw [hg]; exact (bZ bQ) : w.heap.size ≤ gb232)); have n5_ := AM ((by rw [hg]; exact (bZ bQ) : w.heap.size ≤ gb232)); clear HO_3; clear HO_4; clear HB; have HO_3 := n0_; have HO_4 := n1_; have HB := n2_; have BK232 := n3_; have GW232 := n4_; have GE232 := n5_; clear n0_ n1_ n2_ n3_ n4_ n5_; clear hb hbox hg; obtain ⟨_, _, _, _⟩ := bX2 BK232.out))
            repeat (go_quiet (first | ((with_reducible refine gD (N := 6) rfl ?_); (try (refine gG (by rfl) ?_; dsimp only)); refine bE ?hg (N := 6) ?hd (cs := #[.string (⟨#[]⟩ : ByteArray), .int .i64 0]) (t := 31) ?hr ?_; (case hd => rfl); (case hg => rfl); (case hr => first | (go_simp; done) | (go_simp; rfl)); intro gb232 hg w20 hbox hb; have n0_ := AM (Kd.R_below (Kd.R_elderB (by (with_reducible repeat (first | apply rA | apply rD | apply r1x)); exact HO_3.out) gb232 (Nat.le_of_eq hg.symm)) hb); have n1_ := AM (Kd.R_below (Kd.R_elderB (by (with_reducible repeat (first | apply rA | apply rD | apply r1x)); exact HO_4.out) gb232 (Nat.le_of_eq hg.symm)) hb); have n2_ := AM (bT bQ hb); have n3_ := AM (hbox); have n4_ := AM ((by rw [hg]; exact (bZ bQ) : w.heap.size ≤ gb232)); have n5_ := AM ((by rw [hg]; exact (bZ bQ) : w.heap.size ≤ gb232)); clear HO_3; clear HO_4; clear HB; have HO_3 := n0_; have HO_4 := n1_; have HB := n2_; have BK232 := n3_; have GW232 := n4_; have GE232 := n5_; clear n0_ n1_ n2_ n3_ n4_ n5_; clear hb hbox hg; obtain ⟨_, _, _, _⟩ := bX2 BK232.out)); try go_wp2_with (first | ((with_reducible refine gD (N := 6) rfl ?_); (try (refine gG (by rfl) ?_; dsimp only)); refine bE ?hg (N := 6) ?hd (cs := #[.string (⟨#[]⟩ : ByteArray), .int .i64 0]) (t := 31) ?hr ?_; (case hd => rfl); (case hg => rfl); (case hr => first | (go_simp; done) | (go_simp; rfl)); intro gb232 hg w20 hbox hb; have n0_ := AM (Kd.R_below (Kd.R_elderB (by (with_reducible repeat (first | apply rA | apply rD | apply r1x)); exact HO_3.out) gb232 (Nat.le_of_eq hg.symm)) hb); have n1_ := AM (Kd.R_below (Kd.R_elderB (by (with_reducible repeat (first | apply rA | apply rD | apply r1x)); exact HO_4.out) gb232 (Nat.le_of_eq hg.symm)) hb); have n2_ := AM (bT bQ hb); have n3_ := AM (hbox); have n4_ := AM ((by rw [hg]; exact (bZ bQ) : w.heap.size ≤ gb232)); have n5_ := AM ((by rw [hg]; exact (bZ bQ) : w.heap.size ≤ gb232)); clear HO_3; clear HO_4; clear HB; have HO_3 := n0_; have HO_4 := n1_; have HB := n2_; have BK232 := n3_; have GW232 := n4_; have GE232 := n5_; clear n0_ n1_ n2_ n3_ n4_ n5_; clear hb hbox hg; obtain ⟨_, _, _, _⟩ := bX2 BK232.out)))
            go_ret
            exact ⟨by first | rfl | (simp [errW_none, errW_some] <;> rfl) | (simp [*, errW_none, errW_some] <;> rfl), by repeat (first | (with_reducible first | exact HB.out | apply bA | apply bD | apply b1 | refine bS ?_ GE232.out) | exact HB.out)⟩
          rw [if_neg c19] at H
          have c19b0 : (((rd_T31 l0 x30_2).f1) == (-9223372036854775808)) = false := beq_eq_false_iff_ne.mpr c19
          have c19b1 : (((rd_T31 l0 x30_2).f1) != (-9223372036854775808)) = true := bne_iff_ne.mpr c19
          by_cases c22 : x30_2 < (t226.length : Int)
          rotate_left
          · rw [if_neg c22] at H
            exact absurd H (by simp)
          rw [if_pos c22] at H
          have c22b0 := decide_eq_true c22
          clear c22
          by_cases c23 : (!((((rd_T31 t226 x30_2).f0).toList) == (((rd_T31 l0 x30_2).f0).toList)) || (!(((rd_T31 t226 x30_2).f1) == ((rd_T31 l0 x30_2).f1)))) = true
          · rw [if_pos c23] at H
            have c23b0 : (!((((rd_T31 t226 x30_2).f0).toList) == (((rd_T31 l0 x30_2).f0).toList)) || (!(((rd_T31 t226 x30_2).f1) == ((rd_T31 l0 x30_2).f1)))) = true := c23
            clear c23
            exact absurd (Option.some.inj H) (by rw [HRT.out]; decide)
          rw [if_neg c23] at H
          have c23b0 : (!((((rd_T31 t226 x30_2).f0).toList) == (((rd_T31 l0 x30_2).f0).toList)) || (!(((rd_T31 t226 x30_2).f1) == ((rd_T31 l0 x30_2).f1)))) = false := by simpa using c23
          clear c23
          by_cases c24 : x30_2 < (t223.length : Int)
          rotate_left
          · rw [if_neg c24] at H
            exact absurd H (by simp)
          rw [if_pos c24] at H
          have c24b0 := decide_eq_true c24
          clear c24
          by_cases c25 : (!((((rd_T31 t223 x30_2).f0).toList) == (((rd_T31 l0 x30_2).f0).toList)) || (!(((rd_T31 t223 x30_2).f1) == (wrap64 (-((rd_T31 l0 x30_2).f1)))))) = true
          · rw [if_pos c25] at H
            have c25b0 : (!((((rd_T31 t223 x30_2).f0).toList) == (((rd_T31 l0 x30_2).f0).toList)) || (!(((rd_T31 t223 x30_2).f1) == (wrap64 (-((rd_T31 l0 x30_2).f1)))))) = true := c25
            clear c25
            exact absurd (Option.some.inj H) (by rw [HRT.out]; decide)
          rw [if_neg c25] at H
          have c25b0 : (!((((rd_T31 t223 x30_2).f0).toList) == (((rd_T31 l0 x30_2).f0).toList)) || (!(((rd_T31 t223 x30_2).f1) == (wrap64 (-((rd_T31 l0 x30_2).f1)))))) = false := by simpa using c25
          clear c25
          have H' := AM H
          clear H
          have p231 : 0 ≤ (x30_2 : Int) := of_decide_eq_true (by first | (with_reducible assumption) | assumption)
          have q231 : x30_2 < (l0.length : Int) := of_decide_eq_true (by first | (with_reducible assumption) | assumption)
          obtain ⟨ad231, e231, hx231_0, hx231_1⟩ := at_T31 HR0.out x30_2 p231 q231
          cases e231
          replace hx231_0 := (HB.out.cell (bL w _ hx231_0)).trans hx231_0
          replace hx231_1 := (HB.out.cell (bL w _ hx231_1)).trans hx231_1
          replace p231 := eq_true p231
          replace q231 := eq_true q231
          go_wp2_with (first | ((with_reducible refine gD (N := 6) rfl ?_); (try (refine gG (by rfl) ?_; dsimp only)); refine bE ?hg (N := 6) ?hd (cs := #[.string (⟨#[]⟩ : ByteArray), .int .i64 0]) (t := 31) ?hr ?_; (case hd => rfl); (case hg => rfl); (case hr => first | (go_simp; done) | (go_simp; rfl)); intro gb232 hg w26 hbox hb; have n0_ := AM (Kd.R_below (Kd.R_elderB (by (with_reducible repeat (first | apply rA | apply rD | apply r1x)); exact HO_3.out) gb232 (Nat.le_of_eq hg.symm)) hb); have n1_ := AM (Kd.R_below (Kd.R_elderB (by (with_reducible repeat (first | apply rA | apply rD | apply r1x)); exact HO_4.out) gb232 (Nat.le_of_eq hg.symm)) hb); have n2_ := AM (bT bQ hb); have n3_ := AM (hbox); have n4_ := AM ((by rw [hg]; exact (bZ bQ) : w.heap.size ≤ gb232)); have n5_ := AM ((by rw [hg]; exact (bZ bQ) : w.heap.size ≤ gb232)); clear HO_3; clear HO_4; clear HB; have HO_3 := n0_; have HO_4 := n1_; have HB := n2_; have BK232 := n3_; have GW232 := n4_; have GE232 := n5_; clear n0_ n1_ n2_ n3_ n4_ n5_; clear hb hbox hg; obtain ⟨_, _, _, _⟩ := bX2 BK232.out; obtain ⟨Ao28, co28, eo28⟩ := Kd.R_slice HO_4.out; subst eo28; have p233 : 0 ≤ (x30_2 : Int) := of_decide_eq_true (by first | (with_reducible assumption) | assumption); have q233 : x30_2 < (t226.length : Int) := of_decide_eq_true (by first | (with_reducible assumption) | assumption); obtain ⟨ad233, e233, hx233_0, hx233_1⟩ := at_T31 (Kd.R_reads' HO_4.out).2.2 x30_2 p233 q233; cases e233; have hn233_0 : ad233.block ≠ gb232 := Kd.own_blk (Kd.R_away HO_4.out (fun _ hk => hk.2)); have hn233_1 : ad233.block ≠ gb232 := Kd.own_blk (Kd.R_away HO_4.out (fun _ hk => hk.2)); replace hx233_0 := (cell_far (p := ⟨gb232, 0, none⟩) (by first | (rw [add_block]; exact hn233_0) | (show (Addr.add _ _).block ≠ _; rw [add_block]; exact hn233_0) | exact hn233_0) (.string ((rd_T31 l0 x30_2).f0))).trans hx233_0; replace hx233_1 := (cell_far (p := ⟨gb232, 0, none⟩) (by first | (rw [add_block]; exact hn233_0) | (show (Addr.add _ _).block ≠ _; rw [add_block]; exact hn233_0) | exact hn233_0) (.string ((rd_T31 l0 x30_2).f0))).trans hx233_1; replace hx233_0 := (cell_far (p := ⟨gb232, 1, none⟩) (by first | (rw [add_block]; exact hn233_1) | (show (Addr.add _ _).block ≠ _; rw [add_block]; exact hn233_1) | exact hn233_1) (.int .i64 ((rd_T31 l0 x30_2).f1))).trans hx233_0; replace hx233_1 := (cell_far (p := ⟨gb232, 1, none⟩) (by first | (rw [add_block]; exact hn233_1) | (show (Addr.add _ _).block ≠ _; rw [add_block]; exact hn233_1) | exact hn233_1) (.int .i64 ((rd_T31 l0 x30_2).f1))).trans hx233_1; (try have hy233_0 := fun (n_ : Nat) => (show ((((w26.drewN n_).setCell ⟨gb232, 0, none⟩ (.string ((rd_T31 l0 x30_2).f0))).setCell ⟨gb232, 1, none⟩ (.int .i64 ((rd_T31 l0 x30_2).f1)))).cell? _ = some _ from hx233_0)); (try have hy233_1 := fun (n_ : Nat) => (show ((((w26.drewN n_).setCell ⟨gb232, 0, none⟩ (.string ((rd_T31 l0 x30_2).f0))).setCell ⟨gb232, 1, none⟩ (.int .i64 ((rd_T31 l0 x30_2).f1)))).cell? _ = some _ from hx233_1)); clear hn233_0; clear hn233_1; replace p233 := eq_true p233; replace q233 := eq_true q233; have p234 : 0 ≤ (x30_2 : Int) := of_decide_eq_true (by first | (with_reducible assumption) | assumption); have q234 : x30_2 < (t223.length : Int) := of_decide_eq_true (by first | (with_reducible assumption) | assumption); obtain ⟨ad234, e234, hx234_0, hx234_1⟩ := at_T31 (Kd.R_reads' HO_3.out).2.2 x30_2 p234 q234; cases e234; have hn234_0 : ad234.block ≠ gb232 := Kd.own_blk (Kd.R_away HO_3.out (fun _ hk => hk.2)); have hn234_1 : ad234.block ≠ gb232 := Kd.own_blk (Kd.R_away HO_3.out (fun _ hk => hk.2)); replace hx234_0 := (cell_far (p := ⟨gb232, 0, none⟩) (by first | (rw [add_block]; exact hn234_0) | (show (Addr.add _ _).block ≠ _; rw [add_block]; exact hn234_0) | exact hn234_0) (.string ((rd_T31 l0 x30_2).f0))).trans hx234_0; replace hx234_1 := (cell_far (p := ⟨gb232, 0, none⟩) (by first | (rw [add_block]; exact hn234_0) | (show (Addr.add _ _).block ≠ _; rw [add_block]; exact hn234_0) | exact hn234_0) (.string ((rd_T31 l0 x30_2).f0))).trans hx234_1; replace hx234_0 := (cell_far (p := ⟨gb232, 1, none⟩) (by first | (rw [add_block]; exact hn234_1) | (show (Addr.add _ _).block ≠ _; rw [add_block]; exact hn234_1) | exact hn234_1) (.int .i64 ((rd_T31 l0 x30_2).f1))).trans hx234_0; replace hx234_1 := (cell_far (p := ⟨gb232, 1, none⟩) (by first | (rw [add_block]; exact hn234_1) | (show (Addr.add _ _).block ≠ _; rw [add_block]; exact hn234_1) | exact hn234_1) (.int .i64 ((rd_T31 l0 x30_2).f1))).trans hx234_1; (try have hy234_0 := fun (n_ : Nat) => (show ((((w26.drewN n_).setCell ⟨gb232, 0, none⟩ (.string ((rd_T31 l0 x30_2).f0))).setCell ⟨gb232, 1, none⟩ (.int .i64 ((rd_T31 l0 x30_2).f1)))).cell? _ = some _ from hx234_0)); (try have hy234_1 := fun (n_ : Nat) => (show ((((w26.drewN n_).setCell ⟨gb232, 0, none⟩ (.string ((rd_T31 l0 x30_2).f0))).setCell ⟨gb232, 1, none⟩ (.int .i64 ((rd_T31 l0 x30_2).f1)))).cell? _ = some _ from hx234_1)); clear hn234_0; clear hn234_1; replace p234 := eq_true p234; replace q234 := eq_true q234))
          repeat (go_quiet (first | ((with_reducible refine gD (N := 6) rfl ?_); (try (refine gG (by rfl) ?_; dsimp only)); refine bE ?hg (N := 6) ?hd (cs := #[.string (⟨#[]⟩ : ByteArray), .int .i64 0]) (t := 31) ?hr ?_; (case hd => rfl); (case hg => rfl); (case hr => first | (go_simp; done) | (go_simp; rfl)); intro gb232 hg w26 hbox hb; have n0_ := AM (Kd.R_below (Kd.R_elderB (by (with_reducible repeat (first | apply rA | apply rD | apply r1x)); exact HO_3.out) gb232 (Nat.le_of_eq hg.symm)) hb); have n1_ := AM (Kd.R_below (Kd.R_elderB (by (with_reducible repeat (first | apply rA | apply rD | apply r1x)); exact HO_4.out) gb232 (Nat.le_of_eq hg.symm)) hb); have n2_ := AM (bT bQ hb); have n3_ := AM (hbox); have n4_ := AM ((by rw [hg]; exact (bZ bQ) : w.heap.size ≤ gb232)); have n5_ := AM ((by rw [hg]; exact (bZ bQ) : w.heap.size ≤ gb232)); clear HO_3; clear HO_4; clear HB; have HO_3 := n0_; have HO_4 := n1_; have HB := n2_; have BK232 := n3_; have GW232 := n4_; have GE232 := n5_; clear n0_ n1_ n2_ n3_ n4_ n5_; clear hb hbox hg; obtain ⟨_, _, _, _⟩ := bX2 BK232.out; obtain ⟨Ao28, co28, eo28⟩ := Kd.R_slice HO_4.out; subst eo28; have p233 : 0 ≤ (x30_2 : Int) := of_decide_eq_true (by first | (with_reducible assumption) | assumption); have q233 : x30_2 < (t226.length : Int) := of_decide_eq_true (by first | (with_reducible assumption) | assumption); obtain ⟨ad233, e233, hx233_0, hx233_1⟩ := at_T31 (Kd.R_reads' HO_4.out).2.2 x30_2 p233 q233; cases e233; have hn233_0 : ad233.block ≠ gb232 := Kd.own_blk (Kd.R_away HO_4.out (fun _ hk => hk.2)); have hn233_1 : ad233.block ≠ gb232 := Kd.own_blk (Kd.R_away HO_4.out (fun _ hk => hk.2)); replace hx233_0 := (cell_far (p := ⟨gb232, 0, none⟩) (by first | (rw [add_block]; exact hn233_0) | (show (Addr.add _ _).block ≠ _; rw [add_block]; exact hn233_0) | exact hn233_0) (.string ((rd_T31 l0 x30_2).f0))).trans hx233_0; replace hx233_1 := (cell_far (p := ⟨gb232, 0, none⟩) (by first | (rw [add_block]; exact hn233_0) | (show (Addr.add _ _).block ≠ _; rw [add_block]; exact hn233_0) | exact hn233_0) (.string ((rd_T31 l0 x30_2).f0))).trans hx233_1; replace hx233_0 := (cell_far (p := ⟨gb232, 1, none⟩) (by first | (rw [add_block]; exact hn233_1) | (show (Addr.add _ _).block ≠ _; rw [add_block]; exact hn233_1) | exact hn233_1) (.int .i64 ((rd_T31 l0 x30_2).f1))).trans hx233_0; replace hx233_1 := (cell_far (p := ⟨gb232, 1, none⟩) (by first | (rw [add_block]; exact hn233_1) | (show (Addr.add _ _).block ≠ _; rw [add_block]; exact hn233_1) | exact hn233_1) (.int .i64 ((rd_T31 l0 x30_2).f1))).trans hx233_1; (try have hy233_0 := fun (n_ : Nat) => (show ((((w26.drewN n_).setCell ⟨gb232, 0, none⟩ (.string ((rd_T31 l0 x30_2).f0))).setCell ⟨gb232, 1, none⟩ (.int .i64 ((rd_T31 l0 x30_2).f1)))).cell? _ = some _ from hx233_0)); (try have hy233_1 := fun (n_ : Nat) => (show ((((w26.drewN n_).setCell ⟨gb232, 0, none⟩ (.string ((rd_T31 l0 x30_2).f0))).setCell ⟨gb232, 1, none⟩ (.int .i64 ((rd_T31 l0 x30_2).f1)))).cell? _ = some _ from hx233_1)); clear hn233_0; clear hn233_1; replace p233 := eq_true p233; replace q233 := eq_true q233; have p234 : 0 ≤ (x30_2 : Int) := of_decide_eq_true (by first | (with_reducible assumption) | assumption); have q234 : x30_2 < (t223.length : Int) := of_decide_eq_true (by first | (with_reducible assumption) | assumption); obtain ⟨ad234, e234, hx234_0, hx234_1⟩ := at_T31 (Kd.R_reads' HO_3.out).2.2 x30_2 p234 q234; cases e234; have hn234_0 : ad234.block ≠ gb232 := Kd.own_blk (Kd.R_away HO_3.out (fun _ hk => hk.2)); have hn234_1 : ad234.block ≠ gb232 := Kd.own_blk (Kd.R_away HO_3.out (fun _ hk => hk.2)); replace hx234_0 := (cell_far (p := ⟨gb232, 0, none⟩) (by first | (rw [add_block]; exact hn234_0) | (show (Addr.add _ _).block ≠ _; rw [add_block]; exact hn234_0) | exact hn234_0) (.string ((rd_T31 l0 x30_2).f0))).trans hx234_0; replace hx234_1 := (cell_far (p := ⟨gb232, 0, none⟩) (by first | (rw [add_block]; exact hn234_0) | (show (Addr.add _ _).block ≠ _; rw [add_block]; exact hn234_0) | exact hn234_0) (.string ((rd_T31 l0 x30_2).f0))).trans hx234_1; replace hx234_0 := (cell_far (p := ⟨gb232, 1, none⟩) (by first | (rw [add_block]; exact hn234_1) | (show (Addr.add _ _).block ≠ _; rw [add_block]; exact hn234_1) | exact hn234_1) (.int .i64 ((rd_T31 l0 x30_2).f1))).trans hx234_0; replace hx234_1 := (cell_far (p := ⟨gb232, 1, none⟩) (by first | (rw [add_block]; exact hn234_1) | (show (Addr.add _ _).block ≠ _; rw [add_block]; exact hn234_1) | exact hn234_1) (.int .i64 ((rd_T31 l0 x30_2).f1))).trans hx234_1; (try have hy234_0 := fun (n_ : Nat) => (show ((((w26.drewN n_).setCell ⟨gb232, 0, none⟩ (.string ((rd_T31 l0 x30_2).f0))).setCell ⟨gb232, 1, none⟩ (.int .i64 ((rd_T31 l0 x30_2).f1)))).cell? _ = some _ from hx234_0)); (try have hy234_1 := fun (n_ : Nat) => (show ((((w26.drewN n_).setCell ⟨gb232, 0, none⟩ (.string ((rd_T31 l0 x30_2).f0))).setCell ⟨gb232, 1, none⟩ (.int .i64 ((rd_T31 l0 x30_2).f1)))).cell? _ = some _ from hx234_1)); clear hn234_0; clear hn234_1; replace p234 := eq_true p234; replace q234 := eq_true q234)); try go_wp2_with (first | ((with_reducible refine gD (N := 6) rfl ?_); (try (refine gG (by rfl) ?_; dsimp only)); refine bE ?hg (N := 6) ?hd (cs := #[.string (⟨#[]⟩ : ByteArray), .int .i64 0]) (t := 31) ?hr ?_; (case hd => rfl); (case hg => rfl); (case hr => first | (go_simp; done) | (go_simp; rfl)); intro gb232 hg w26 hbox hb; have n0_ := AM (Kd.R_below (Kd.R_elderB (by (with_reducible repeat (first | apply rA | apply rD | apply r1x)); exact HO_3.out) gb232 (Nat.le_of_eq hg.symm)) hb); have n1_ := AM (Kd.R_below (Kd.R_elderB (by (with_reducible repeat (first | apply rA | apply rD | apply r1x)); exact HO_4.out) gb232 (Nat.le_of_eq hg.symm)) hb); have n2_ := AM (bT bQ hb); have n3_ := AM (hbox); have n4_ := AM ((by rw [hg]; exact (bZ bQ) : w.heap.size ≤ gb232)); have n5_ := AM ((by rw [hg]; exact (bZ bQ) : w.heap.size ≤ gb232)); clear HO_3; clear HO_4; clear HB; have HO_3 := n0_; have HO_4 := n1_; have HB := n2_; have BK232 := n3_; have GW232 := n4_; have GE232 := n5_; clear n0_ n1_ n2_ n3_ n4_ n5_; clear hb hbox hg; obtain ⟨_, _, _, _⟩ := bX2 BK232.out; obtain ⟨Ao28, co28, eo28⟩ := Kd.R_slice HO_4.out; subst eo28; have p233 : 0 ≤ (x30_2 : Int) := of_decide_eq_true (by first | (with_reducible assumption) | assumption); have q233 : x30_2 < (t226.length : Int) := of_decide_eq_true (by first | (with_reducible assumption) | assumption); obtain ⟨ad233, e233, hx233_0, hx233_1⟩ := at_T31 (Kd.R_reads' HO_4.out).2.2 x30_2 p233 q233; cases e233; have hn233_0 : ad233.block ≠ gb232 := Kd.own_blk (Kd.R_away HO_4.out (fun _ hk => hk.2)); have hn233_1 : ad233.block ≠ gb232 := Kd.own_blk (Kd.R_away HO_4.out (fun _ hk => hk.2)); replace hx233_0 := (cell_far (p := ⟨gb232, 0, none⟩) (by first | (rw [add_block]; exact hn233_0) | (show (Addr.add _ _).block ≠ _; rw [add_block]; exact hn233_0) | exact hn233_0) (.string ((rd_T31 l0 x30_2).f0))).trans hx233_0; replace hx233_1 := (cell_far (p := ⟨gb232, 0, none⟩) (by first | (rw [add_block]; exact hn233_0) | (show (Addr.add _ _).block ≠ _; rw [add_block]; exact hn233_0) | exact hn233_0) (.string ((rd_T31 l0 x30_2).f0))).trans hx233_1; replace hx233_0 := (cell_far (p := ⟨gb232, 1, none⟩) (by first | (rw [add_block]; exact hn233_1) | (show (Addr.add _ _).block ≠ _; rw [add_block]; exact hn233_1) | exact hn233_1) (.int .i64 ((rd_T31 l0 x30_2).f1))).trans hx233_0; replace hx233_1 := (cell_far (p := ⟨gb232, 1, none⟩) (by first | (rw [add_block]; exact hn233_1) | (show (Addr.add _ _).block ≠ _; rw [add_block]; exact hn233_1) | exact hn233_1) (.int .i64 ((rd_T31 l0 x30_2).f1))).trans hx233_1; (try have hy233_0 := fun (n_ : Nat) => (show ((((w26.drewN n_).setCell ⟨gb232, 0, none⟩ (.string ((rd_T31 l0 x30_2).f0))).setCell ⟨gb232, 1, none⟩ (.int .i64 ((rd_T31 l0 x30_2).f1)))).cell? _ = some _ from hx233_0)); (try have hy233_1 := fun (n_ : Nat) => (show ((((w26.drewN n_).setCell ⟨gb232, 0, none⟩ (.string ((rd_T31 l0 x30_2).f0))).setCell ⟨gb232, 1, none⟩ (.int .i64 ((rd_T31 l0 x30_2).f1)))).cell? _ = some _ from hx233_1)); clear hn233_0; clear hn233_1; replace p233 := eq_true p233; replace q233 := eq_true q233; have p234 : 0 ≤ (x30_2 : Int) := of_decide_eq_true (by first | (with_reducible assumption) | assumption); have q234 : x30_2 < (t223.length : Int) := of_decide_eq_true (by first | (with_reducible assumption) | assumption); obtain ⟨ad234, e234, hx234_0, hx234_1⟩ := at_T31 (Kd.R_reads' HO_3.out).2.2 x30_2 p234 q234; cases e234; have hn234_0 : ad234.block ≠ gb232 := Kd.own_blk (Kd.R_away HO_3.out (fun _ hk => hk.2)); have hn234_1 : ad234.block ≠ gb232 := Kd.own_blk (Kd.R_away HO_3.out (fun _ hk => hk.2)); replace hx234_0 := (cell_far (p := ⟨gb232, 0, none⟩) (by first | (rw [add_block]; exact hn234_0) | (show (Addr.add _ _).block ≠ _; rw [add_block]; exact hn234_0) | exact hn234_0) (.string ((rd_T31 l0 x30_2).f0))).trans hx234_0; replace hx234_1 := (cell_far (p := ⟨gb232, 0, none⟩) (by first | (rw [add_block]; exact hn234_0) | (show (Addr.add _ _).block ≠ _; rw [add_block]; exact hn234_0) | exact hn234_0) (.string ((rd_T31 l0 x30_2).f0))).trans hx234_1; replace hx234_0 := (cell_far (p := ⟨gb232, 1, none⟩) (by first | (rw [add_block]; exact hn234_1) | (show (Addr.add _ _).block ≠ _; rw [add_block]; exact hn234_1) | exact hn234_1) (.int .i64 ((rd_T31 l0 x30_2).f1))).trans hx234_0; replace hx234_1 := (cell_far (p := ⟨gb232, 1, none⟩) (by first | (rw [add_block]; exact hn234_1) | (show (Addr.add _ _).block ≠ _; rw [add_block]; exact hn234_1) | exact hn234_1) (.int .i64 ((rd_T31 l0 x30_2).f1))).trans hx234_1; (try have hy234_0 := fun (n_ : Nat) => (show ((((w26.drewN n_).setCell ⟨gb232, 0, none⟩ (.string ((rd_T31 l0 x30_2).f0))).setCell ⟨gb232, 1, none⟩ (.int .i64 ((rd_T31 l0 x30_2).f1)))).cell? _ = some _ from hx234_0)); (try have hy234_1 := fun (n_ : Nat) => (show ((((w26.drewN n_).setCell ⟨gb232, 0, none⟩ (.string ((rd_T31 l0 x30_2).f0))).setCell ⟨gb232, 1, none⟩ (.int .i64 ((rd_T31 l0 x30_2).f1)))).cell? _ = some _ from hx234_1)); clear hn234_0; clear hn234_1; replace p234 := eq_true p234; replace q234 := eq_true q234)))
          go_roundg k2
          case measure => have := HJ7.out; have := HK2.out; omega
          case rel => exact ⟨(wrap64 (x30_2 + 1)), (by first | rfl | (simp; done) | (simp [*]; done)), H', ⟨by have := HJ7.out; have := HK2.out; omega⟩, ⟨by (with_reducible repeat (first | apply rA | apply rD | apply r1x)); exact Kd.R_mono (Kd.R_far (p := ⟨gb232, 1, none⟩) (Kd.R_far (p := ⟨gb232, 0, none⟩) (Kd.R_mono HO_3.out (fun k_ hk => (⟨hk, hk.2⟩ : _ ∧ k_ ≠ gb232))) (fun _ hk => hk.2) (.string ((rd_T31 l0 x30_2).f0))) (fun _ hk => hk.2) (.int .i64 ((rd_T31 l0 x30_2).f1))) (fun _ hk => hk.1.1)⟩, ⟨by (with_reducible repeat (first | apply rA | apply rD | apply r1x)); exact Kd.R_mono (Kd.R_far (p := ⟨gb232, 1, none⟩) (Kd.R_far (p := ⟨gb232, 0, none⟩) (Kd.R_mono HO_4.out (fun k_ hk => (⟨hk, hk.2⟩ : _ ∧ k_ ≠ gb232))) (fun _ hk => hk.2) (.string ((rd_T31 l0 x30_2).f0))) (fun _ hk => hk.2) (.int .i64 ((rd_T31 l0 x30_2).f1))) (fun _ hk => hk.1.1)⟩, ⟨by repeat (first | (with_reducible first | exact HB.out | apply bA | apply bD | apply b1 | refine bS ?_ GE232.out) | exact HB.out)⟩⟩
end Go.Proofs.YtjljhianehhlgaaDoor.K
