-- by a program of this session, over the kit's printer
import Derived.Test.YtodijkdmcjnpkaaDoorKx0
namespace Go.Proofs.YtodijkdmcjnpkaaDoor.K
open Go.RowKit Go.Proofs.YtodijkdmcjnpkaaDoorW.PrintWords Go.Proofs.YtodijkdmcjnpkaaDoorW.PrintLast Go.Proofs.YtodijkdmcjnpkaaDoorW.PrintMore
attribute [local go_sem] max2_int min2_int max_two min_two max_three min_three max_four min_four   -- for this text's walks alone
set_option linter.unusedVariables false
set_option linter.unusedSimpArgs false

/-! ### code_Check: function 12 -/
mutual
def code_Check.j0 : Nat → Bool → Int → Int → Int → Int → Bool → Option (Int)
  | 0, _, _, _, _, _, _ => none
  | k + 1, x11, x102000, x102001, x102002, x102003, x102004 => if x11 = true then (some 81) else (if x102001 = 1 then (code_Check.j1 k true x102000 x102001 x102002 x102003 x102004) else (code_Check.j1 k (x102001 == 2) x102000 x102001 x102002 x102003 x102004))
def code_Check.j1 : Nat → Bool → Int → Int → Int → Int → Bool → Option (Int)
  | 0, _, _, _, _, _, _ => none
  | k + 1, x3, x102000, x102001, x102002, x102003, x102004 => if x102001 < 1 then (code_Check.j2 k x3 true x102000 x102001 x102002 x102003 x102004) else (code_Check.j2 k x3 (decide (x102001 > 4)) x102000 x102001 x102002 x102003 x102004)
def code_Check.j2 : Nat → Bool → Bool → Int → Int → Int → Int → Bool → Option (Int)
  | 0, _, _, _, _, _, _, _ => none
  | k + 1, x3, x20, x102000, x102001, x102002, x102003, x102004 => if x20 = true then (some 80) else (if x3 = true then (code_Check.j3 k false x102000 x102001 x102002 x102003 x102004) else (code_Check.j3 k (x102002 != 0) x102000 x102001 x102002 x102003 x102004))
def code_Check.j3 : Nat → Bool → Int → Int → Int → Int → Bool → Option (Int)
  | 0, _, _, _, _, _, _ => none
  | k + 1, x29, x102000, x102001, x102002, x102003, x102004 => if x29 = true then (code_Check.j4 k x29 x102000 x102001 x102002 x102003 x102004) else (if x102002 < 0 then (code_Check.j4 k (decide (x102002 < 0)) x102000 x102001 x102002 x102003 x102004) else (if x102002 > 999999000 then (code_Check.j4 k (decide (x102002 > 999999000)) x102000 x102001 x102002 x102003 x102004) else (code_Check.j4 k ((Int.tmod x102002 1000) != 0) x102000 x102001 x102002 x102003 x102004)))
def code_Check.j4 : Nat → Bool → Int → Int → Int → Int → Bool → Option (Int)
  | 0, _, _, _, _, _, _ => none
  | k + 1, x29, x102000, x102001, x102002, x102003, x102004 => if x29 = true then (some 80) else (if x102001 = 2 then (code_Check.j5 k (x102002 == 0) x102000 x102001 x102002 x102003 x102004) else (code_Check.j5 k false x102000 x102001 x102002 x102003 x102004))
def code_Check.j5 : Nat → Bool → Int → Int → Int → Int → Bool → Option (Int)
  | 0, _, _, _, _, _, _ => none
  | k + 1, x47, x102000, x102001, x102002, x102003, x102004 => if x47 = true then (some 80) else (if x102001 = 3 then (code_Check.j6 k false x102000 x102001 x102002 x102003 x102004) else (code_Check.j6 k (x102003 != 0) x102000 x102001 x102002 x102003 x102004))
def code_Check.j6 : Nat → Bool → Int → Int → Int → Int → Bool → Option (Int)
  | 0, _, _, _, _, _, _ => none
  | k + 1, x56, x102000, x102001, x102002, x102003, x102004 => if x56 = true then (some 80) else (if x102003 < 0 then (some 80) else (if x102003 > 7 then (some 80) else (some 0)))
end
def code_Check.f (k : Nat) (a0_0 : Int) (a0_1 : Int) (a0_2 : Int) (a0_3 : Int) (a0_4 : Bool) : Option (Int) := if a0_0 < 0 then (code_Check.j0 k true a0_0 a0_1 a0_2 a0_3 a0_4) else (code_Check.j0 k (decide (a0_0 > 7)) a0_0 a0_1 a0_2 a0_3 a0_4)
set_option maxHeartbeats 8000000 in
set_option maxRecDepth 100000 in
theorem code_Check.calls (k : Nat) (a0_0 : Int) (a0_1 : Int) (a0_2 : Int) (a0_3 : Int) (a0_4 : Bool) (r : Int) (w : World) (h : code_Check.f k a0_0 a0_1 a0_2 a0_3 a0_4 = some r) :
    Calls Tryd.prog 12 #[.agg #[.int .i64 a0_0, .int .i64 a0_1, .int .i64 a0_2, .int .i64 a0_3, .bool a0_4]] w fun e w' => e = .returned (.int .i64 r) ∧ Below w.heap.size w w' := by
  have hu23 := Tryd.underlying23
  have HB := AM (Below.refl w.heap.size w)
  have H : (if a0_0 < 0 then (code_Check.j0 k true a0_0 a0_1 a0_2 a0_3 a0_4) else (code_Check.j0 k (decide (a0_0 > 7)) a0_0 a0_1 a0_2 a0_3 a0_4)) = some r := h
  clear h
  have HC2 := AM H
  clear H
  go_enter Tryd.func12, Tryd.ntmps12
  go_upto_region 1 with (first | ((with_reducible refine gD (N := 1) rfl ?_); refine bE ?hg (N := 1) ?hd (cs := #[.int .i64 a0_0, .int .i64 a0_1, .int .i64 a0_2, .int .i64 a0_3, .bool a0_4]) (t := 23) ?hr ?_; (case hd => rfl); (case hg => rfl); (case hr => first | (go_simp; done) | (go_simp; rfl)); intro gb101 hg w3 hbox hb; have n0_ := AM (bT bQ hb); have n1_ := AM (hbox); have n2_ := AM ((by rw [hg]; exact (bZ bQ) : w.heap.size ≤ gb101)); have n3_ := AM ((by rw [hg]; exact (bZ bQ) : w.heap.size ≤ gb101)); clear HB; have HB := n0_; have BK101 := n1_; have GW101 := n2_; have GE101 := n3_; clear n0_ n1_ n2_ n3_; clear hb hbox hg))
  (try simp only [Act.put, List.setIfInBounds_toArray, List.set_cons_zero, List.set_cons_succ])
  go_cut [11] (fun v11 wc => ∃ (kq : Nat) (x11_1 : Bool), v11 = .bool x11_1 ∧ Aside0 (code_Check.j0 kq x11_1 a0_0 a0_1 a0_2 a0_3 a0_4 = some r) ∧ Aside0 (kq ≤ k) ∧ Aside0 (wc.heap[gb101]? = some (.cells #[.int .i64 a0_0, .int .i64 a0_1, .int .i64 a0_2, .int .i64 a0_3, .bool a0_4] 23 (0, 0))) ∧ Aside0 (Below w.heap.size w wc))
  case first =>
    have H := HC2.out
    clear HC2
    by_cases c4 : a0_0 < 0
    · rw [if_pos c4] at H
      have c4b0 := decide_eq_true c4
      clear c4
      (first | rw [c4b0] | (simp only [i64_w, i32_w]; rw [c4b0]) | skip)
      have H' := AM H
      clear H
      obtain ⟨_, _, _, _, _, _, _, _, _, _⟩ := bX5 BK101.out
      go_wp2
      go_meet
      case rel => exact ⟨_, (true), (by first | rfl | (simp; done) | (simp [*]; done)), H', ⟨by first | omega | exact Nat.le_refl _⟩, ⟨by (with_reducible repeat (first | refine kD ?_ _ | refine k1_ ?_ | refine kA ?_ _)); exact BK101.out⟩, ⟨by repeat (first | (with_reducible first | exact HB.out | apply bA | apply bD | apply b1 | refine bS ?_ GE101.out) | exact HB.out)⟩⟩
    rw [if_neg c4] at H
    have c4b0 := decide_eq_false c4
    clear c4
    (first | rw [c4b0] | (simp only [i64_w, i32_w]; rw [c4b0]) | skip)
    have H' := AM H
    clear H
    obtain ⟨_, _, _, _, _, _, _, _, _, _⟩ := bX5 BK101.out
    go_wp2
    go_meet
    case rel => exact ⟨_, (decide (a0_0 > 7)), (by first | rfl | (simp; done) | (simp [*]; done)), H', ⟨by first | omega | exact Nat.le_refl _⟩, ⟨by (with_reducible repeat (first | refine kD ?_ _ | refine k1_ ?_ | refine kA ?_ _)); exact BK101.out⟩, ⟨by repeat (first | (with_reducible first | exact HB.out | apply bA | apply bD | apply b1 | refine bS ?_ GE101.out) | exact HB.out)⟩⟩
  case rest =>
    clear HC2
    obtain ⟨kq, x11_1, rfl, HA, HJ1, BK101, HB⟩ := hcut
    cases kq with
    | zero => exact absurd HA.out (by simp [code_Check.j0])
    | succ kj1 =>
      have H := HA.out
      clear HA
      simp only [code_Check.j0] at H
      by_cases c7 : x11_1 = true
      · subst c7
        have H1 : (some 81) = some r := by rw [if_pos rfl] at H; exact H
        clear H
        have H := H1
        clear H1
        obtain rfl := Option.some.inj H
        go_wp2
        go_ret
        exact ⟨by first | rfl | (simp [errW_none, errW_some] <;> rfl) | (simp [*, errW_none, errW_some] <;> rfl), by repeat (first | (with_reducible first | exact HB.out | apply bA | apply bD | apply b1 | refine bS ?_ GE101.out) | exact HB.out)⟩
      replace c7 := Bool.eq_false_iff.mpr c7
      subst c7
      have H1 : (if a0_1 = 1 then (code_Check.j1 kj1 true a0_0 a0_1 a0_2 a0_3 a0_4) else (code_Check.j1 kj1 (a0_1 == 2) a0_0 a0_1 a0_2 a0_3 a0_4)) = some r := by rw [if_neg (show ¬ (false = true) by decide)] at H; exact H
      clear H
      have H := H1
      clear H1
      have HC8 := AM H
      clear H
      go_upto_region 3 with (fail)
      go_cut [3] (fun v3 wc => ∃ (kq : Nat) (x3_7 : Bool), v3 = .bool x3_7 ∧ Aside0 (code_Check.j1 kq x3_7 a0_0 a0_1 a0_2 a0_3 a0_4 = some r) ∧ Aside0 (kq ≤ kj1) ∧ Aside0 (wc.heap[gb101]? = some (.cells #[.int .i64 a0_0, .int .i64 a0_1, .int .i64 a0_2, .int .i64 a0_3, .bool a0_4] 23 (0, 0))) ∧ Aside0 (Below w.heap.size w wc))
      case first =>
        have H := HC8.out
        clear HC8
        by_cases c9 : a0_1 = 1
        rotate_left
        · rw [if_neg c9] at H
          have c9b0 : (a0_1 == 1) = false := beq_eq_false_iff_ne.mpr c9
          have c9b1 : (a0_1 != 1) = true := bne_iff_ne.mpr c9
          (first | rw [c9b0] | (simp only [i64_w, i32_w]; rw [c9b0]) | skip)
          have H' := AM H
          clear H
          obtain ⟨_, _, _, _, _, _, _, _, _, _⟩ := bX5 BK101.out
          go_wp2
          go_meet
          case rel => exact ⟨_, ((a0_1 == 2)), (by first | rfl | (simp; done) | (simp [*]; done)), H', ⟨by have := HJ1.out; first | omega | exact Nat.le_refl _⟩, ⟨by (with_reducible repeat (first | refine kD ?_ _ | refine k1_ ?_ | refine kA ?_ _)); exact BK101.out⟩, ⟨by repeat (first | (with_reducible first | exact HB.out | apply bA | apply bD | apply b1 | refine bS ?_ GE101.out) | exact HB.out)⟩⟩
        rw [if_pos c9] at H
        have c9b0 : (a0_1 == 1) = true := beq_iff_eq.mpr c9
        have c9b1 : (a0_1 != 1) = false := bne_eq_false_iff_eq.mpr c9
        clear c9
        (first | rw [c9b0] | (simp only [i64_w, i32_w]; rw [c9b0]) | skip)
        have H' := AM H
        clear H
        obtain ⟨_, _, _, _, _, _, _, _, _, _⟩ := bX5 BK101.out
        go_wp2
        go_meet
        case rel => exact ⟨_, (true), (by first | rfl | (simp; done) | (simp [*]; done)), H', ⟨by have := HJ1.out; first | omega | exact Nat.le_refl _⟩, ⟨by (with_reducible repeat (first | refine kD ?_ _ | refine k1_ ?_ | refine kA ?_ _)); exact BK101.out⟩, ⟨by repeat (first | (with_reducible first | exact HB.out | apply bA | apply bD | apply b1 | refine bS ?_ GE101.out) | exact HB.out)⟩⟩
      case rest =>
        clear HC8
        obtain ⟨kq, x3_7, rfl, HA, HJ7, BK101, HB⟩ := hcut
        cases kq with
        | zero => exact absurd HA.out (by simp [code_Check.j1])
        | succ kj7 =>
          have H := HA.out
          clear HA
          simp only [code_Check.j1] at H
          have HC12 := AM H
          clear H
          go_upto_region 4 with (fail)
          go_cut [20] (fun v20 wc => ∃ (kq : Nat) (x20_11 : Bool), v20 = .bool x20_11 ∧ Aside0 (code_Check.j2 kq x3_7 x20_11 a0_0 a0_1 a0_2 a0_3 a0_4 = some r) ∧ Aside0 (kq ≤ kj7) ∧ Aside0 (wc.heap[gb101]? = some (.cells #[.int .i64 a0_0, .int .i64 a0_1, .int .i64 a0_2, .int .i64 a0_3, .bool a0_4] 23 (0, 0))) ∧ Aside0 (Below w.heap.size w wc))
          case first =>
            have H := HC12.out
            clear HC12
            by_cases c13 : a0_1 < 1
            · rw [if_pos c13] at H
              have c13b0 := decide_eq_true c13
              clear c13
              (first | rw [c13b0] | (simp only [i64_w, i32_w]; rw [c13b0]) | skip)
              have H' := AM H
              clear H
              obtain ⟨_, _, _, _, _, _, _, _, _, _⟩ := bX5 BK101.out
              go_wp2
              go_meet
              case rel => exact ⟨_, (true), (by first | rfl | (simp; done) | (simp [*]; done)), H', ⟨by have := HJ1.out; have := HJ7.out; first | omega | exact Nat.le_refl _⟩, ⟨by (with_reducible repeat (first | refine kD ?_ _ | refine k1_ ?_ | refine kA ?_ _)); exact BK101.out⟩, ⟨by repeat (first | (with_reducible first | exact HB.out | apply bA | apply bD | apply b1 | refine bS ?_ GE101.out) | exact HB.out)⟩⟩
            rw [if_neg c13] at H
            have c13b0 := decide_eq_false c13
            clear c13
            (first | rw [c13b0] | (simp only [i64_w, i32_w]; rw [c13b0]) | skip)
            have H' := AM H
            clear H
            obtain ⟨_, _, _, _, _, _, _, _, _, _⟩ := bX5 BK101.out
            go_wp2
            go_meet
            case rel => exact ⟨_, (decide (a0_1 > 4)), (by first | rfl | (simp; done) | (simp [*]; done)), H', ⟨by have := HJ1.out; have := HJ7.out; first | omega | exact Nat.le_refl _⟩, ⟨by (with_reducible repeat (first | refine kD ?_ _ | refine k1_ ?_ | refine kA ?_ _)); exact BK101.out⟩, ⟨by repeat (first | (with_reducible first | exact HB.out | apply bA | apply bD | apply b1 | refine bS ?_ GE101.out) | exact HB.out)⟩⟩
          case rest =>
            clear HC12
            obtain ⟨kq, x20_11, rfl, HA, HJ11, BK101, HB⟩ := hcut
            cases kq with
            | zero => exact absurd HA.out (by simp [code_Check.j2])
            | succ kj11 =>
              have H := HA.out
              clear HA
              simp only [code_Check.j2] at H
              by_cases c16 : x20_11 = true
              · subst c16
                have H1 : (some 80) = some r := by rw [if_pos rfl] at H; exact H
                clear H
                have H := H1
                clear H1
                obtain rfl := Option.some.inj H
                go_wp2
                go_ret
                exact ⟨by first | rfl | (simp [errW_none, errW_some] <;> rfl) | (simp [*, errW_none, errW_some] <;> rfl), by repeat (first | (with_reducible first | exact HB.out | apply bA | apply bD | apply b1 | refine bS ?_ GE101.out) | exact HB.out)⟩
              replace c16 := Bool.eq_false_iff.mpr c16
              subst c16
              have H1 : (if x3_7 = true then (code_Check.j3 kj11 false a0_0 a0_1 a0_2 a0_3 a0_4) else (code_Check.j3 kj11 (a0_2 != 0) a0_0 a0_1 a0_2 a0_3 a0_4)) = some r := by rw [if_neg (show ¬ (false = true) by decide)] at H; exact H
              clear H
              have H := H1
              clear H1
              have HC17 := AM H
              clear H
              go_upto_region 6 with (fail)
              go_cut [29] (fun v29 wc => ∃ (kq : Nat) (x29_16 : Bool), v29 = .bool x29_16 ∧ Aside0 (code_Check.j3 kq x29_16 a0_0 a0_1 a0_2 a0_3 a0_4 = some r) ∧ Aside0 (kq ≤ kj11) ∧ Aside0 (wc.heap[gb101]? = some (.cells #[.int .i64 a0_0, .int .i64 a0_1, .int .i64 a0_2, .int .i64 a0_3, .bool a0_4] 23 (0, 0))) ∧ Aside0 (Below w.heap.size w wc))
              case first =>
                have H := HC17.out
                clear HC17
                by_cases c18 : x3_7 = true
                · subst c18
                  have H1 : (code_Check.j3 kj11 false a0_0 a0_1 a0_2 a0_3 a0_4) = some r := by rw [if_pos rfl] at H; exact H
                  clear H
                  have H := H1
                  clear H1
                  have H' := AM H
                  clear H
                  go_wp2
                  go_meet
                  case rel => exact ⟨_, (false), (by first | rfl | (simp; done) | (simp [*]; done)), H', ⟨by have := HJ1.out; have := HJ7.out; have := HJ11.out; first | omega | exact Nat.le_refl _⟩, ⟨by (with_reducible repeat (first | refine kD ?_ _ | refine k1_ ?_ | refine kA ?_ _)); exact BK101.out⟩, ⟨by repeat (first | (with_reducible first | exact HB.out | apply bA | apply bD | apply b1 | refine bS ?_ GE101.out) | exact HB.out)⟩⟩
                replace c18 := Bool.eq_false_iff.mpr c18
                subst c18
                have H1 : (code_Check.j3 kj11 (a0_2 != 0) a0_0 a0_1 a0_2 a0_3 a0_4) = some r := by rw [if_neg (show ¬ (false = true) by decide)] at H; exact H
                clear H
                have H := H1
                clear H1
                have H' := AM H
                clear H
                obtain ⟨_, _, _, _, _, _, _, _, _, _⟩ := bX5 BK101.out
                go_wp2
                go_meet
                case rel => exact ⟨_, ((a0_2 != 0)), (by first | rfl | (simp; done) | (simp [*]; done)), H', ⟨by have := HJ1.out; have := HJ7.out; have := HJ11.out; first | omega | exact Nat.le_refl _⟩, ⟨by (with_reducible repeat (first | refine kD ?_ _ | refine k1_ ?_ | refine kA ?_ _)); exact BK101.out⟩, ⟨by repeat (first | (with_reducible first | exact HB.out | apply bA | apply bD | apply b1 | refine bS ?_ GE101.out) | exact HB.out)⟩⟩
              case rest =>
                clear HC17
                obtain ⟨kq, x29_16, rfl, HA, HJ16, BK101, HB⟩ := hcut
                cases kq with
                | zero => exact absurd HA.out (by simp [code_Check.j3])
                | succ kj16 =>
                  have H := HA.out
                  clear HA
                  simp only [code_Check.j3] at H
                  have HC20 := AM H
                  clear H
                  go_upto_if 29 with (fail)
                  go_cut [29] (fun v29 wc => ∃ (kq : Nat) (x29_19 : Bool), v29 = .bool x29_19 ∧ Aside0 (code_Check.j4 kq x29_19 a0_0 a0_1 a0_2 a0_3 a0_4 = some r) ∧ Aside0 (kq ≤ kj16) ∧ Aside0 (wc.heap[gb101]? = some (.cells #[.int .i64 a0_0, .int .i64 a0_1, .int .i64 a0_2, .int .i64 a0_3, .bool a0_4] 23 (0, 0))) ∧ Aside0 (Below w.heap.size w wc))
                  case first =>
                    have H := HC20.out
                    clear HC20
                    by_cases c21 : x29_16 = true
                    · subst c21
                      have H1 : (code_Check.j4 kj16 true a0_0 a0_1 a0_2 a0_3 a0_4) = some r := by rw [if_pos rfl] at H; exact H
                      clear H
                      have H := H1
                      clear H1
                      have H' := AM H
                      clear H
                      go_wp2
                      go_meet
                      case rel => exact ⟨_, (true), (by first | rfl | (simp; done) | (simp [*]; done)), H', ⟨by have := HJ1.out; have := HJ7.out; have := HJ11.out; have := HJ16.out; first | omega | exact Nat.le_refl _⟩, ⟨by (with_reducible repeat (first | refine kD ?_ _ | refine k1_ ?_ | refine kA ?_ _)); exact BK101.out⟩, ⟨by repeat (first | (with_reducible first | exact HB.out | apply bA | apply bD | apply b1 | refine bS ?_ GE101.out) | exact HB.out)⟩⟩
                    replace c21 := Bool.eq_false_iff.mpr c21
                    subst c21
                    have H1 : (if a0_2 < 0 then (code_Check.j4 kj16 (decide (a0_2 < 0)) a0_0 a0_1 a0_2 a0_3 a0_4) else (if a0_2 > 999999000 then (code_Check.j4 kj16 (decide (a0_2 > 999999000)) a0_0 a0_1 a0_2 a0_3 a0_4) else (code_Check.j4 kj16 ((Int.tmod a0_2 1000) != 0) a0_0 a0_1 a0_2 a0_3 a0_4))) = some r := by rw [if_neg (show ¬ (false = true) by decide)] at H; exact H
                    clear H
                    have H := H1
                    clear H1
                    by_cases c22 : a0_2 < 0
                    · rw [if_pos c22] at H
                      have c22b0 := decide_eq_true c22
                      clear c22
                      (first | rw [c22b0] | (simp only [i64_w, i32_w]; rw [c22b0]) | skip)
                      have H' := AM H
                      clear H
                      obtain ⟨_, _, _, _, _, _, _, _, _, _⟩ := bX5 BK101.out
                      go_wp2
                      go_meet
                      case rel => exact ⟨_, (decide (a0_2 < 0)), (by first | rfl | (simp; done) | (simp [*]; done)), H', ⟨by have := HJ1.out; have := HJ7.out; have := HJ11.out; have := HJ16.out; first | omega | exact Nat.le_refl _⟩, ⟨by (with_reducible repeat (first | refine kD ?_ _ | refine k1_ ?_ | refine kA ?_ _)); exact BK101.out⟩, ⟨by repeat (first | (with_reducible first | exact HB.out | apply bA | apply bD | apply b1 | refine bS ?_ GE101.out) | exact HB.out)⟩⟩
                    rw [if_neg c22] at H
                    have c22b0 := decide_eq_false c22
                    clear c22
                    (first | rw [c22b0] | (simp only [i64_w, i32_w]; rw [c22b0]) | skip)
                    by_cases c24 : a0_2 > 999999000
                    · rw [if_pos c24] at H
                      have c24b0 : decide (999999000 < a0_2) = true := decide_eq_true c24
                      clear c24
                      have H' := AM H
                      clear H
                      obtain ⟨_, _, _, _, _, _, _, _, _, _⟩ := bX5 BK101.out
                      go_wp2
                      go_meet
                      case rel => exact ⟨_, (decide (a0_2 > 999999000)), (by first | rfl | (simp; done) | (simp [*]; done)), H', ⟨by have := HJ1.out; have := HJ7.out; have := HJ11.out; have := HJ16.out; first | omega | exact Nat.le_refl _⟩, ⟨by (with_reducible repeat (first | refine kD ?_ _ | refine k1_ ?_ | refine kA ?_ _)); exact BK101.out⟩, ⟨by repeat (first | (with_reducible first | exact HB.out | apply bA | apply bD | apply b1 | refine bS ?_ GE101.out) | exact HB.out)⟩⟩
                    rw [if_neg c24] at H
                    have c24b0 : decide (999999000 < a0_2) = false := decide_eq_false c24
                    clear c24
                    have H' := AM H
                    clear H
                    obtain ⟨_, _, _, _, _, _, _, _, _, _⟩ := bX5 BK101.out
                    go_wp2
                    go_meet
                    case rel => exact ⟨_, (((Int.tmod a0_2 1000) != 0)), (by first | rfl | (simp; done) | (simp [*]; done)), H', ⟨by have := HJ1.out; have := HJ7.out; have := HJ11.out; have := HJ16.out; first | omega | exact Nat.le_refl _⟩, ⟨by (with_reducible repeat (first | refine kD ?_ _ | refine k1_ ?_ | refine kA ?_ _)); exact BK101.out⟩, ⟨by repeat (first | (with_reducible first | exact HB.out | apply bA | apply bD | apply b1 | refine bS ?_ GE101.out) | exact HB.out)⟩⟩
                  case rest =>
                    clear HC20
                    obtain ⟨kq, x29_19, rfl, HA, HJ19, BK101, HB⟩ := hcut
                    cases kq with
                    | zero => exact absurd HA.out (by simp [code_Check.j4])
                    | succ kj19 =>
                      have H := HA.out
                      clear HA
                      simp only [code_Check.j4] at H
                      by_cases c27 : x29_19 = true
                      · subst c27
                        have H1 : (some 80) = some r := by rw [if_pos rfl] at H; exact H
                        clear H
                        have H := H1
                        clear H1
                        obtain rfl := Option.some.inj H
                        go_wp2
                        go_ret
                        exact ⟨by first | rfl | (simp [errW_none, errW_some] <;> rfl) | (simp [*, errW_none, errW_some] <;> rfl), by repeat (first | (with_reducible first | exact HB.out | apply bA | apply bD | apply b1 | refine bS ?_ GE101.out) | exact HB.out)⟩
                      replace c27 := Bool.eq_false_iff.mpr c27
                      subst c27
                      have H1 : (if a0_1 = 2 then (code_Check.j5 kj19 (a0_2 == 0) a0_0 a0_1 a0_2 a0_3 a0_4) else (code_Check.j5 kj19 false a0_0 a0_1 a0_2 a0_3 a0_4)) = some r := by rw [if_neg (show ¬ (false = true) by decide)] at H; exact H
                      clear H
                      have H := H1
                      clear H1
                      have HC28 := AM H
                      clear H
                      go_upto_region 11 with (fail)
                      go_cut [47] (fun v47 wc => ∃ (kq : Nat) (x47_27 : Bool), v47 = .bool x47_27 ∧ Aside0 (code_Check.j5 kq x47_27 a0_0 a0_1 a0_2 a0_3 a0_4 = some r) ∧ Aside0 (kq ≤ kj19) ∧ Aside0 (wc.heap[gb101]? = some (.cells #[.int .i64 a0_0, .int .i64 a0_1, .int .i64 a0_2, .int .i64 a0_3, .bool a0_4] 23 (0, 0))) ∧ Aside0 (Below w.heap.size w wc))
                      case first =>
                        have H := HC28.out
                        clear HC28
                        by_cases c29 : a0_1 = 2
                        rotate_left
                        · rw [if_neg c29] at H
                          have c29b0 : (a0_1 == 2) = false := beq_eq_false_iff_ne.mpr c29
                          have c29b1 : (a0_1 != 2) = true := bne_iff_ne.mpr c29
                          (first | rw [c29b0] | (simp only [i64_w, i32_w]; rw [c29b0]) | skip)
                          have H' := AM H
                          clear H
                          obtain ⟨_, _, _, _, _, _, _, _, _, _⟩ := bX5 BK101.out
                          go_wp2
                          go_meet
                          case rel => exact ⟨_, (false), (by first | rfl | (simp; done) | (simp [*]; done)), H', ⟨by have := HJ1.out; have := HJ7.out; have := HJ11.out; have := HJ16.out; have := HJ19.out; first | omega | exact Nat.le_refl _⟩, ⟨by (with_reducible repeat (first | refine kD ?_ _ | refine k1_ ?_ | refine kA ?_ _)); exact BK101.out⟩, ⟨by repeat (first | (with_reducible first | exact HB.out | apply bA | apply bD | apply b1 | refine bS ?_ GE101.out) | exact HB.out)⟩⟩
                        rw [if_pos c29] at H
                        have c29b0 : (a0_1 == 2) = true := beq_iff_eq.mpr c29
                        have c29b1 : (a0_1 != 2) = false := bne_eq_false_iff_eq.mpr c29
                        clear c29
                        (first | rw [c29b0] | (simp only [i64_w, i32_w]; rw [c29b0]) | skip)
                        have H' := AM H
                        clear H
                        obtain ⟨_, _, _, _, _, _, _, _, _, _⟩ := bX5 BK101.out
                        go_wp2
                        go_meet
                        case rel => exact ⟨_, ((a0_2 == 0)), (by first | rfl | (simp; done) | (simp [*]; done)), H', ⟨by have := HJ1.out; have := HJ7.out; have := HJ11.out; have := HJ16.out; have := HJ19.out; first | omega | exact Nat.le_refl _⟩, ⟨by (with_reducible repeat (first | refine kD ?_ _ | refine k1_ ?_ | refine kA ?_ _)); exact BK101.out⟩, ⟨by repeat (first | (with_reducible first | exact HB.out | apply bA | apply bD | apply b1 | refine bS ?_ GE101.out) | exact HB.out)⟩⟩
                      case rest =>
                        clear HC28
                        obtain ⟨kq, x47_27, rfl, HA, HJ27, BK101, HB⟩ := hcut
                        cases kq with
                        | zero => exact absurd HA.out (by simp [code_Check.j5])
                        | succ kj27 =>
                          have H := HA.out
                          clear HA
                          simp only [code_Check.j5] at H
                          by_cases c32 : x47_27 = true
                          · subst c32
                            have H1 : (some 80) = some r := by rw [if_pos rfl] at H; exact H
                            clear H
                            have H := H1
                            clear H1
                            obtain rfl := Option.some.inj H
                            go_wp2
                            go_ret
                            exact ⟨by first | rfl | (simp [errW_none, errW_some] <;> rfl) | (simp [*, errW_none, errW_some] <;> rfl), by repeat (first | (with_reducible first | exact HB.out | apply bA | apply bD | apply b1 | refine bS ?_ GE101.out) | exact HB.out)⟩
                          replace c32 := Bool.eq_false_iff.mpr c32
                          subst c32
                          have H1 : (if a0_1 = 3 then (code_Check.j6 kj27 false a0_0 a0_1 a0_2 a0_3 a0_4) else (code_Check.j6 kj27 (a0_3 != 0) a0_0 a0_1 a0_2 a0_3 a0_4)) = some r := by rw [if_neg (show ¬ (false = true) by decide)] at H; exact H
                          clear H
                          have H := H1
                          clear H1
                          have HC33 := AM H
                          clear H
                          go_upto_region 13 with (fail)
                          go_cut [56] (fun v56 wc => ∃ (kq : Nat) (x56_32 : Bool), v56 = .bool x56_32 ∧ Aside0 (code_Check.j6 kq x56_32 a0_0 a0_1 a0_2 a0_3 a0_4 = some r) ∧ Aside0 (kq ≤ kj27) ∧ Aside0 (wc.heap[gb101]? = some (.cells #[.int .i64 a0_0, .int .i64 a0_1, .int .i64 a0_2, .int .i64 a0_3, .bool a0_4] 23 (0, 0))) ∧ Aside0 (Below w.heap.size w wc))
                          case first =>
                            have H := HC33.out
                            clear HC33
                            by_cases c34 : a0_1 = 3
                            rotate_left
                            · rw [if_neg c34] at H
                              have c34b0 : (a0_1 == 3) = false := beq_eq_false_iff_ne.mpr c34
                              have c34b1 : (a0_1 != 3) = true := bne_iff_ne.mpr c34
                              (first | rw [c34b0] | (simp only [i64_w, i32_w]; rw [c34b0]) | skip)
                              have H' := AM H
                              clear H
                              obtain ⟨_, _, _, _, _, _, _, _, _, _⟩ := bX5 BK101.out
                              go_wp2
                              go_meet
                              case rel => exact ⟨_, ((a0_3 != 0)), (by first | rfl | (simp; done) | (simp [*]; done)), H', ⟨by have := HJ1.out; have := HJ7.out; have := HJ11.out; have := HJ16.out; have := HJ19.out; have := HJ27.out; first | omega | exact Nat.le_refl _⟩, ⟨by (with_reducible repeat (first | refine kD ?_ _ | refine k1_ ?_ | refine kA ?_ _)); exact BK101.out⟩, ⟨by repeat (first | (with_reducible first | exact HB.out | apply bA | apply bD | apply b1 | refine bS ?_ GE101.out) | exact HB.out)⟩⟩
                            rw [if_pos c34] at H
                            have c34b0 : (a0_1 == 3) = true := beq_iff_eq.mpr c34
                            have c34b1 : (a0_1 != 3) = false := bne_eq_false_iff_eq.mpr c34
                            clear c34
                            (first | rw [c34b0] | (simp only [i64_w, i32_w]; rw [c34b0]) | skip)
                            have H' := AM H
                            clear H
                            obtain ⟨_, _, _, _, _, _, _, _, _, _⟩ := bX5 BK101.out
                            go_wp2
                            go_meet
                            case rel => exact ⟨_, (false), (by first | rfl | (simp; done) | (simp [*]; done)), H', ⟨by have := HJ1.out; have := HJ7.out; have := HJ11.out; have := HJ16.out; have := HJ19.out; have := HJ27.out; first | omega | exact Nat.le_refl _⟩, ⟨by (with_reducible repeat (first | refine kD ?_ _ | refine k1_ ?_ | refine kA ?_ _)); exact BK101.out⟩, ⟨by repeat (first | (with_reducible first | exact HB.out | apply bA | apply bD | apply b1 | refine bS ?_ GE101.out) | exact HB.out)⟩⟩
                          case rest =>
                            clear HC33
                            obtain ⟨kq, x56_32, rfl, HA, HJ32, BK101, HB⟩ := hcut
                            cases kq with
                            | zero => exact absurd HA.out (by simp [code_Check.j6])
                            | succ kj32 =>
                              have H := HA.out
                              clear HA
                              simp only [code_Check.j6] at H
                              by_cases c37 : x56_32 = true
                              · subst c37
                                have H1 : (some 80) = some r := by rw [if_pos rfl] at H; exact H
                                clear H
                                have H := H1
                                clear H1
                                obtain rfl := Option.some.inj H
                                go_wp2
                                go_ret
                                exact ⟨by first | rfl | (simp [errW_none, errW_some] <;> rfl) | (simp [*, errW_none, errW_some] <;> rfl), by repeat (first | (with_reducible first | exact HB.out | apply bA | apply bD | apply b1 | refine bS ?_ GE101.out) | exact HB.out)⟩
                              replace c37 := Bool.eq_false_iff.mpr c37
                              subst c37
                              have H1 : (if a0_3 < 0 then (some 80) else (if a0_3 > 7 then (some 80) else (some 0))) = some r := by rw [if_neg (show ¬ (false = true) by decide)] at H; exact H
                              clear H
                              have H := H1
                              clear H1
                              by_cases c38 : a0_3 < 0
                              · rw [if_pos c38] at H
                                have c38b0 := decide_eq_true c38
                                clear c38
                                obtain rfl := Option.some.inj H
                                obtain ⟨_, _, _, _, _, _, _, _, _, _⟩ := bX5 BK101.out
                                go_wp2
                                go_ret
                                exact ⟨by first | rfl | (simp [errW_none, errW_some] <;> rfl) | (simp [*, errW_none, errW_some] <;> rfl), by repeat (first | (with_reducible first | exact HB.out | apply bA | apply bD | apply b1 | refine bS ?_ GE101.out) | exact HB.out)⟩
                              rw [if_neg c38] at H
                              have c38b0 := decide_eq_false c38
                              clear c38
                              by_cases c40 : a0_3 > 7
                              · rw [if_pos c40] at H
                                have c40b0 : decide (7 < a0_3) = true := decide_eq_true c40
                                clear c40
                                obtain rfl := Option.some.inj H
                                obtain ⟨_, _, _, _, _, _, _, _, _, _⟩ := bX5 BK101.out
                                go_wp2
                                go_ret
                                exact ⟨by first | rfl | (simp [errW_none, errW_some] <;> rfl) | (simp [*, errW_none, errW_some] <;> rfl), by repeat (first | (with_reducible first | exact HB.out | apply bA | apply bD | apply b1 | refine bS ?_ GE101.out) | exact HB.out)⟩
                              rw [if_neg c40] at H
                              have c40b0 : decide (7 < a0_3) = false := decide_eq_false c40
                              clear c40
                              obtain rfl := Option.some.inj H
                              obtain ⟨_, _, _, _, _, _, _, _, _, _⟩ := bX5 BK101.out
                              go_wp2
                              go_ret
                              exact ⟨by first | rfl | (simp [errW_none, errW_some] <;> rfl) | (simp [*, errW_none, errW_some] <;> rfl), by repeat (first | (with_reducible first | exact HB.out | apply bA | apply bD | apply b1 | refine bS ?_ GE101.out) | exact HB.out)⟩

end Go.Proofs.YtodijkdmcjnpkaaDoor.K
