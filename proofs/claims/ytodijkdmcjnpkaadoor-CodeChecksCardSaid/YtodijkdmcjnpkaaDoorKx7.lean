-- by a program of this session, over the kit's printer
import Derived.Test.YtodijkdmcjnpkaaDoorKx0
import Derived.Test.YtodijkdmcjnpkaaDoorKx1
import Derived.Test.YtodijkdmcjnpkaaDoorKx2
import Derived.Test.YtodijkdmcjnpkaaDoorKx4
import Derived.Test.YtodijkdmcjnpkaaDoorKx5
import Derived.Test.YtodijkdmcjnpkaaDoorKx6
namespace Go.Proofs.YtodijkdmcjnpkaaDoor.K
open Go.RowKit Go.Proofs.YtodijkdmcjnpkaaDoorW.PrintWords Go.Proofs.YtodijkdmcjnpkaaDoorW.PrintLast Go.Proofs.YtodijkdmcjnpkaaDoorW.PrintMore
attribute [local go_sem] max2_int min2_int max_two min_two max_three min_three max_four min_four   -- for this text's walks alone
set_option linter.unusedVariables false
set_option linter.unusedSimpArgs false

attribute [local go_sem high] eqA23
/-! ### stipendlaw08_CodeChecks: function 4 -/
mutual
def stipendlaw08_CodeChecks.j5 : Nat → Int → Int → Int → Int → Int → Bool → Option (Bool)
  | 0, _, _, _, _, _, _ => none
  | k + 1, x3, x191000, x191001, x191002, x191003, x191004 => (code_Text.f k x191000 x191001 x191002 x191003 x191004).bind fun t192 => ((code_Check.f k x191000 x191001 x191002 x191003 x191004).bind fun t193 => (if t193 = x3 then (stipendlaw08_CodeChecks.j6 k x3 t192 ((t192.toList == ([] : List UInt8)) != (x3 != 0)) x191000 x191001 x191002 x191003 x191004) else (stipendlaw08_CodeChecks.j6 k x3 t192 true x191000 x191001 x191002 x191003 x191004)))
def stipendlaw08_CodeChecks.j6 : Nat → Int → ByteArray → Bool → Int → Int → Int → Int → Bool → Option (Bool)
  | 0, _, _, _, _, _, _, _, _ => none
  | k + 1, x3, x4, x83, x191000, x191001, x191002, x191003, x191004 => if x83 = true then (some false) else (if x3 = 0 then ((code_Parse.f k x4).bind fun bt194 => (if bt194.2.2.2.2.2 = 0 then (some (bt194.1 == x191000 && (bt194.2.1 == x191001 && (bt194.2.2.1 == x191002 && (bt194.2.2.2.1 == x191003 && (bt194.2.2.2.2.1 == x191004)))))) else (some false))) else ((code_Free.f k x191000 x191001 x191002 x191003 x191004 1 1).bind fun bt201 => ((code_Charge.f k x191000 x191001 x191002 x191003 x191004 5 1 1).bind fun bt203 => (if bt201.2 = x3 then (if bt203.2 = x3 then (if bt201.1 = 0 then (some (bt203.1 == 0)) else (some false)) else (some false)) else (some false)))))
def stipendlaw08_CodeChecks.j0 : Nat → Int → Bool → Int → Int → Int → Int → Bool → Option (Bool)
  | 0, _, _, _, _, _, _, _ => none
  | k + 1, x3, x13, x191000, x191001, x191002, x191003, x191004 => if x13 = true then (stipendlaw08_CodeChecks.j5 k 81 x191000 x191001 x191002 x191003 x191004) else (if x191001 < 1 then (stipendlaw08_CodeChecks.j1 k x3 true x191000 x191001 x191002 x191003 x191004) else (stipendlaw08_CodeChecks.j1 k x3 (decide (x191001 > 4)) x191000 x191001 x191002 x191003 x191004))
def stipendlaw08_CodeChecks.j1 : Nat → Int → Bool → Int → Int → Int → Int → Bool → Option (Bool)
  | 0, _, _, _, _, _, _, _ => none
  | k + 1, x3, x22, x191000, x191001, x191002, x191003, x191004 => if x22 = true then (stipendlaw08_CodeChecks.j5 k 80 x191000 x191001 x191002 x191003 x191004) else (if x191001 > 2 then (stipendlaw08_CodeChecks.j2 k x3 (x191002 != 0) x191000 x191001 x191002 x191003 x191004) else (stipendlaw08_CodeChecks.j2 k x3 false x191000 x191001 x191002 x191003 x191004))
def stipendlaw08_CodeChecks.j2 : Nat → Int → Bool → Int → Int → Int → Int → Bool → Option (Bool)
  | 0, _, _, _, _, _, _, _ => none
  | k + 1, x3, x22, x191000, x191001, x191002, x191003, x191004 => if x22 = true then (stipendlaw08_CodeChecks.j5 k 80 x191000 x191001 x191002 x191003 x191004) else (if x191002 < 0 then (stipendlaw08_CodeChecks.j5 k 80 x191000 x191001 x191002 x191003 x191004) else (if x191002 > 999999000 then (stipendlaw08_CodeChecks.j5 k 80 x191000 x191001 x191002 x191003 x191004) else (if (Int.tmod x191002 1000) = 0 then (if x191001 = 2 then (stipendlaw08_CodeChecks.j3 k x3 (x191002 == 0) x191000 x191001 x191002 x191003 x191004) else (stipendlaw08_CodeChecks.j3 k x3 false x191000 x191001 x191002 x191003 x191004)) else (stipendlaw08_CodeChecks.j5 k 80 x191000 x191001 x191002 x191003 x191004))))
def stipendlaw08_CodeChecks.j3 : Nat → Int → Bool → Int → Int → Int → Int → Bool → Option (Bool)
  | 0, _, _, _, _, _, _, _ => none
  | k + 1, x3, x22, x191000, x191001, x191002, x191003, x191004 => if x22 = true then (stipendlaw08_CodeChecks.j5 k 80 x191000 x191001 x191002 x191003 x191004) else (if x191001 = 3 then (stipendlaw08_CodeChecks.j4 k x3 false x191000 x191001 x191002 x191003 x191004) else (stipendlaw08_CodeChecks.j4 k x3 (x191003 != 0) x191000 x191001 x191002 x191003 x191004))
def stipendlaw08_CodeChecks.j4 : Nat → Int → Bool → Int → Int → Int → Int → Bool → Option (Bool)
  | 0, _, _, _, _, _, _, _ => none
  | k + 1, x3, x22, x191000, x191001, x191002, x191003, x191004 => if x22 = true then (stipendlaw08_CodeChecks.j5 k 80 x191000 x191001 x191002 x191003 x191004) else (if x191003 < 0 then (stipendlaw08_CodeChecks.j5 k 80 x191000 x191001 x191002 x191003 x191004) else (if x191003 > 7 then (stipendlaw08_CodeChecks.j5 k 80 x191000 x191001 x191002 x191003 x191004) else (stipendlaw08_CodeChecks.j5 k x3 x191000 x191001 x191002 x191003 x191004)))
end
def stipendlaw08_CodeChecks.f (k : Nat) (a0_0 : Int) (a0_1 : Int) (a0_2 : Int) (a0_3 : Int) (a0_4 : Bool) : Option (Bool) := (stipendlaw08_codes.f).bind fun t191 => (if t191 = true then (if a0_0 < 0 then (stipendlaw08_CodeChecks.j0 k 0 true a0_0 a0_1 a0_2 a0_3 a0_4) else (stipendlaw08_CodeChecks.j0 k 0 (decide (a0_0 > 7)) a0_0 a0_1 a0_2 a0_3 a0_4)) else (some false))
set_option maxHeartbeats 8000000 in
set_option maxRecDepth 100000 in
theorem stipendlaw08_CodeChecks.calls (k : Nat) (a0_0 : Int) (a0_1 : Int) (a0_2 : Int) (a0_3 : Int) (a0_4 : Bool) (r : Bool) (w : World) (hrt : r = true) (h : stipendlaw08_CodeChecks.f k a0_0 a0_1 a0_2 a0_3 a0_4 = some r) (htb : TB w) :
    Calls Tryd.prog 4 #[.agg #[.int .i64 a0_0, .int .i64 a0_1, .int .i64 a0_2, .int .i64 a0_3, .bool a0_4]] w fun e w' => e = .returned (.bool r) ∧ Below w.heap.size w w' := by
  have HRT := AM hrt
  clear hrt
  have hu23 := Tryd.underlying23
  have HB := AM (Below.refl w.heap.size w)
  have H : ((stipendlaw08_codes.f).bind fun t191 => (if t191 = true then (if a0_0 < 0 then (stipendlaw08_CodeChecks.j0 k 0 true a0_0 a0_1 a0_2 a0_3 a0_4) else (stipendlaw08_CodeChecks.j0 k 0 (decide (a0_0 > 7)) a0_0 a0_1 a0_2 a0_3 a0_4)) else (some false))) = some r := h
  clear h
  replace H := Option.bind_eq_some_iff.mp H
  obtain ⟨t191, A20, H⟩ := H
  replace H : (if t191 = true then (if a0_0 < 0 then (stipendlaw08_CodeChecks.j0 k 0 true a0_0 a0_1 a0_2 a0_3 a0_4) else (stipendlaw08_CodeChecks.j0 k 0 (decide (a0_0 > 7)) a0_0 a0_1 a0_2 a0_3 a0_4)) else (some false)) = some r := H
  have A2 := AM A20
  clear A20
  by_cases c3 : t191 = true
  rotate_left
  · replace c3 := Bool.eq_false_iff.mpr c3
    subst c3
    have H1 : (some false) = some r := by rw [if_neg (show ¬ (false = true) by decide)] at H; exact H
    clear H
    have H := H1
    clear H1
    exact absurd (Option.some.inj H) (by rw [HRT.out]; decide)

  subst c3
  have H1 : (if a0_0 < 0 then (stipendlaw08_CodeChecks.j0 k 0 true a0_0 a0_1 a0_2 a0_3 a0_4) else (stipendlaw08_CodeChecks.j0 k 0 (decide (a0_0 > 7)) a0_0 a0_1 a0_2 a0_3 a0_4)) = some r := by rw [if_pos rfl] at H; exact H
  clear H
  have H := H1
  clear H1
  have HC4 := AM H
  clear H
  go_enter Tryd.func4, Tryd.ntmps4
  go_upto_block 0 with (first | ((with_reducible refine gD (N := 1) rfl ?_); refine bE ?hg (N := 1) ?hd (cs := #[.int .i64 a0_0, .int .i64 a0_1, .int .i64 a0_2, .int .i64 a0_3, .bool a0_4]) (t := 23) ?hr ?_; (case hd => rfl); (case hg => rfl); (case hr => first | (go_simp; done) | (go_simp; rfl)); intro gb190 hg w5 hbox hb; have n0_ := AM (bT bQ hb); have n1_ := AM (hbox); have n2_ := AM ((by rw [hg]; exact (bZ bQ) : w.heap.size ≤ gb190)); have n3_ := AM ((by rw [hg]; exact (bZ bQ) : w.heap.size ≤ gb190)); clear HB; have HB := n0_; have BK190 := n1_; have GW190 := n2_; have GE190 := n3_; clear n0_ n1_ n2_ n3_; clear hb hbox hg) | ((with_reducible refine gC (f := 16) rfl ?_); refine gL (some 11) rfl rfl Tryd.func16 (by kernel_rfl) rfl #[] rfl (by (try simp only [List.map_toArray, List.map_cons, List.map_nil]); first | done | rfl | (simp only [List.length_drop, List.length_take]; rfl)) ?_; (with_reducible refine (stipendlaw08_codes.calls  true _ A2.out (tQ htb)).mono ?_); rintro e w6 ⟨rfl, hb⟩; refine ⟨_, rfl, ?_⟩; have n0_ := AM (kB (g := gb190) (o := .cells #[.int .i64 a0_0, .int .i64 a0_1, .int .i64 a0_2, .int .i64 a0_3, .bool a0_4] 23 (0, 0)) (kW BK190) hb); have n1_ := AM (bT bQ hb); clear BK190; clear HB; have BK190 := n0_; have HB := n1_; clear n0_ n1_; (try clear hb); (try clear hb2); (try clear hk); (try clear hi)))
  (try simp only [Act.put, List.setIfInBounds_toArray, List.set_cons_zero, List.set_cons_succ])
  go_cut [3] (fun v3 wc => ∃ (kq : Nat) (x3_3 : Int), v3 = .int .i64 x3_3 ∧ Aside0 (stipendlaw08_CodeChecks.j5 kq x3_3 a0_0 a0_1 a0_2 a0_3 a0_4 = some r) ∧ Aside0 (kq ≤ k) ∧ Aside0 (wc.heap[gb190]? = some (.cells #[.int .i64 a0_0, .int .i64 a0_1, .int .i64 a0_2, .int .i64 a0_3, .bool a0_4] 23 (0, 0))) ∧ Aside0 (Below w.heap.size w wc))
  case first =>
    have H := HC4.out
    clear HC4
    have HC7 := AM H
    clear H
    go_upto_region 4 with (fail)
    go_cut [13] (fun v13 wc => ∃ (kq : Nat) (x13_6 : Bool), v13 = .bool x13_6 ∧ Aside0 (stipendlaw08_CodeChecks.j0 kq 0 x13_6 a0_0 a0_1 a0_2 a0_3 a0_4 = some r) ∧ Aside0 (kq ≤ k) ∧ Aside0 (wc.heap[gb190]? = some (.cells #[.int .i64 a0_0, .int .i64 a0_1, .int .i64 a0_2, .int .i64 a0_3, .bool a0_4] 23 (0, 0))) ∧ Aside0 (Below w.heap.size w wc))
    case first =>
      have H := HC7.out
      clear HC7
      by_cases c8 : a0_0 < 0
      · rw [if_pos c8] at H
        have c8b0 := decide_eq_true c8
        clear c8
        (first | rw [c8b0] | (simp only [i64_w, i32_w]; rw [c8b0]) | skip)
        have H' := AM H
        clear H
        obtain ⟨_, _, _, _, _, _, _, _, _, _⟩ := bX5 BK190.out
        go_wp2
        go_meet
        case rel => exact ⟨_, (true), (by first | rfl | (simp; done) | (simp [*]; done)), H', ⟨by first | omega | exact Nat.le_refl _⟩, ⟨by (with_reducible repeat (first | refine kD ?_ _ | refine k1_ ?_ | refine kA ?_ _)); exact BK190.out⟩, ⟨by repeat (first | (with_reducible first | exact HB.out | apply bA | apply bD | apply b1 | refine bS ?_ GE190.out) | exact HB.out)⟩⟩
      rw [if_neg c8] at H
      have c8b0 := decide_eq_false c8
      clear c8
      (first | rw [c8b0] | (simp only [i64_w, i32_w]; rw [c8b0]) | skip)
      have H' := AM H
      clear H
      obtain ⟨_, _, _, _, _, _, _, _, _, _⟩ := bX5 BK190.out
      go_wp2
      go_meet
      case rel => exact ⟨_, (decide (a0_0 > 7)), (by first | rfl | (simp; done) | (simp [*]; done)), H', ⟨by first | omega | exact Nat.le_refl _⟩, ⟨by (with_reducible repeat (first | refine kD ?_ _ | refine k1_ ?_ | refine kA ?_ _)); exact BK190.out⟩, ⟨by repeat (first | (with_reducible first | exact HB.out | apply bA | apply bD | apply b1 | refine bS ?_ GE190.out) | exact HB.out)⟩⟩
    case rest =>
      clear HC7
      obtain ⟨kq, x13_6, rfl, HA, HJ6, BK190, HB⟩ := hcut
      cases kq with
      | zero => exact absurd HA.out (by simp [stipendlaw08_CodeChecks.j0])
      | succ kj6 =>
        have H := HA.out
        clear HA
        simp only [stipendlaw08_CodeChecks.j0] at H
        by_cases c11 : x13_6 = true
        · subst c11
          have H1 : (stipendlaw08_CodeChecks.j5 kj6 81 a0_0 a0_1 a0_2 a0_3 a0_4) = some r := by rw [if_pos rfl] at H; exact H
          clear H
          have H := H1
          clear H1
          have H' := AM H
          clear H
          go_wp2
          go_meet
          case rel => exact ⟨_, (81), (by first | rfl | (simp; done) | (simp [*]; done)), H', ⟨by have := HJ6.out; first | omega | exact Nat.le_refl _⟩, ⟨by (with_reducible repeat (first | refine kD ?_ _ | refine k1_ ?_ | refine kA ?_ _)); exact BK190.out⟩, ⟨by repeat (first | (with_reducible first | exact HB.out | apply bA | apply bD | apply b1 | refine bS ?_ GE190.out) | exact HB.out)⟩⟩
        replace c11 := Bool.eq_false_iff.mpr c11
        subst c11
        have H1 : (if a0_1 < 1 then (stipendlaw08_CodeChecks.j1 kj6 0 true a0_0 a0_1 a0_2 a0_3 a0_4) else (stipendlaw08_CodeChecks.j1 kj6 0 (decide (a0_1 > 4)) a0_0 a0_1 a0_2 a0_3 a0_4)) = some r := by rw [if_neg (show ¬ (false = true) by decide)] at H; exact H
        clear H
        have H := H1
        clear H1
        have HC12 := AM H
        clear H
        go_upto_region 6 with (fail)
        go_cut [22] (fun v22 wc => ∃ (kq : Nat) (x22_11 : Bool), v22 = .bool x22_11 ∧ Aside0 (stipendlaw08_CodeChecks.j1 kq 0 x22_11 a0_0 a0_1 a0_2 a0_3 a0_4 = some r) ∧ Aside0 (kq ≤ kj6) ∧ Aside0 (wc.heap[gb190]? = some (.cells #[.int .i64 a0_0, .int .i64 a0_1, .int .i64 a0_2, .int .i64 a0_3, .bool a0_4] 23 (0, 0))) ∧ Aside0 (Below w.heap.size w wc))
        case first =>
          have H := HC12.out
          clear HC12
          by_cases c13 : a0_1 < 1
          · rw [if_pos c13] at H
            have c13b0 := decide_eq_true c13
            clear c13
            (first | rw [c13b0] | (simp only [i64_w, i32_w]; rw [c13b0]) | skip)
            have H' := AM H
            clear H
            obtain ⟨_, _, _, _, _, _, _, _, _, _⟩ := bX5 BK190.out
            go_wp2
            go_meet
            case rel => exact ⟨_, (true), (by first | rfl | (simp; done) | (simp [*]; done)), H', ⟨by have := HJ6.out; first | omega | exact Nat.le_refl _⟩, ⟨by (with_reducible repeat (first | refine kD ?_ _ | refine k1_ ?_ | refine kA ?_ _)); exact BK190.out⟩, ⟨by repeat (first | (with_reducible first | exact HB.out | apply bA | apply bD | apply b1 | refine bS ?_ GE190.out) | exact HB.out)⟩⟩
          rw [if_neg c13] at H
          have c13b0 := decide_eq_false c13
          clear c13
          (first | rw [c13b0] | (simp only [i64_w, i32_w]; rw [c13b0]) | skip)
          have H' := AM H
          clear H
          obtain ⟨_, _, _, _, _, _, _, _, _, _⟩ := bX5 BK190.out
          go_wp2
          go_meet
          case rel => exact ⟨_, (decide (a0_1 > 4)), (by first | rfl | (simp; done) | (simp [*]; done)), H', ⟨by have := HJ6.out; first | omega | exact Nat.le_refl _⟩, ⟨by (with_reducible repeat (first | refine kD ?_ _ | refine k1_ ?_ | refine kA ?_ _)); exact BK190.out⟩, ⟨by repeat (first | (with_reducible first | exact HB.out | apply bA | apply bD | apply b1 | refine bS ?_ GE190.out) | exact HB.out)⟩⟩
        case rest =>
          clear HC12
          obtain ⟨kq, x22_11, rfl, HA, HJ11, BK190, HB⟩ := hcut
          cases kq with
          | zero => exact absurd HA.out (by simp [stipendlaw08_CodeChecks.j1])
          | succ kj11 =>
            have H := HA.out
            clear HA
            simp only [stipendlaw08_CodeChecks.j1] at H
            by_cases c16 : x22_11 = true
            · subst c16
              have H1 : (stipendlaw08_CodeChecks.j5 kj11 80 a0_0 a0_1 a0_2 a0_3 a0_4) = some r := by rw [if_pos rfl] at H; exact H
              clear H
              have H := H1
              clear H1
              have H' := AM H
              clear H
              go_wp2
              go_meet
              case rel => exact ⟨_, (80), (by first | rfl | (simp; done) | (simp [*]; done)), H', ⟨by have := HJ6.out; have := HJ11.out; first | omega | exact Nat.le_refl _⟩, ⟨by (with_reducible repeat (first | refine kD ?_ _ | refine k1_ ?_ | refine kA ?_ _)); exact BK190.out⟩, ⟨by repeat (first | (with_reducible first | exact HB.out | apply bA | apply bD | apply b1 | refine bS ?_ GE190.out) | exact HB.out)⟩⟩
            replace c16 := Bool.eq_false_iff.mpr c16
            subst c16
            have H1 : (if a0_1 > 2 then (stipendlaw08_CodeChecks.j2 kj11 0 (a0_2 != 0) a0_0 a0_1 a0_2 a0_3 a0_4) else (stipendlaw08_CodeChecks.j2 kj11 0 false a0_0 a0_1 a0_2 a0_3 a0_4)) = some r := by rw [if_neg (show ¬ (false = true) by decide)] at H; exact H
            clear H
            have H := H1
            clear H1
            have HC17 := AM H
            clear H
            go_upto_region 7 with (fail)
            go_cut [22] (fun v22 wc => ∃ (kq : Nat) (x22_16 : Bool), v22 = .bool x22_16 ∧ Aside0 (stipendlaw08_CodeChecks.j2 kq 0 x22_16 a0_0 a0_1 a0_2 a0_3 a0_4 = some r) ∧ Aside0 (kq ≤ kj11) ∧ Aside0 (wc.heap[gb190]? = some (.cells #[.int .i64 a0_0, .int .i64 a0_1, .int .i64 a0_2, .int .i64 a0_3, .bool a0_4] 23 (0, 0))) ∧ Aside0 (Below w.heap.size w wc))
            case first =>
              have H := HC17.out
              clear HC17
              by_cases c18 : a0_1 > 2
              rotate_left
              · rw [if_neg c18] at H
                have c18b0 : decide (2 < a0_1) = false := decide_eq_false c18
                clear c18
                (first | rw [c18b0] | (simp only [i64_w, i32_w]; rw [c18b0]) | skip)
                have H' := AM H
                clear H
                obtain ⟨_, _, _, _, _, _, _, _, _, _⟩ := bX5 BK190.out
                go_wp2
                go_meet
                case rel => exact ⟨_, (false), (by first | rfl | (simp; done) | (simp [*]; done)), H', ⟨by have := HJ6.out; have := HJ11.out; first | omega | exact Nat.le_refl _⟩, ⟨by (with_reducible repeat (first | refine kD ?_ _ | refine k1_ ?_ | refine kA ?_ _)); exact BK190.out⟩, ⟨by repeat (first | (with_reducible first | exact HB.out | apply bA | apply bD | apply b1 | refine bS ?_ GE190.out) | exact HB.out)⟩⟩
              rw [if_pos c18] at H
              have c18b0 : decide (2 < a0_1) = true := decide_eq_true c18
              clear c18
              (first | rw [c18b0] | (simp only [i64_w, i32_w]; rw [c18b0]) | skip)
              have H' := AM H
              clear H
              obtain ⟨_, _, _, _, _, _, _, _, _, _⟩ := bX5 BK190.out
              go_wp2
              go_meet
              case rel => exact ⟨_, ((a0_2 != 0)), (by first | rfl | (simp; done) | (simp [*]; done)), H', ⟨by have := HJ6.out; have := HJ11.out; first | omega | exact Nat.le_refl _⟩, ⟨by (with_reducible repeat (first | refine kD ?_ _ | refine k1_ ?_ | refine kA ?_ _)); exact BK190.out⟩, ⟨by repeat (first | (with_reducible first | exact HB.out | apply bA | apply bD | apply b1 | refine bS ?_ GE190.out) | exact HB.out)⟩⟩
            case rest =>
              clear HC17
              obtain ⟨kq, x22_16, rfl, HA, HJ16, BK190, HB⟩ := hcut
              cases kq with
              | zero => exact absurd HA.out (by simp [stipendlaw08_CodeChecks.j2])
              | succ kj16 =>
                have H := HA.out
                clear HA
                simp only [stipendlaw08_CodeChecks.j2] at H
                by_cases c21 : x22_16 = true
                · subst c21
                  have H1 : (stipendlaw08_CodeChecks.j5 kj16 80 a0_0 a0_1 a0_2 a0_3 a0_4) = some r := by rw [if_pos rfl] at H; exact H
                  clear H
                  have H := H1
                  clear H1
                  have H' := AM H
                  clear H
                  go_wp2
                  go_meet
                  case rel => exact ⟨_, (80), (by first | rfl | (simp; done) | (simp [*]; done)), H', ⟨by have := HJ6.out; have := HJ11.out; have := HJ16.out; first | omega | exact Nat.le_refl _⟩, ⟨by (with_reducible repeat (first | refine kD ?_ _ | refine k1_ ?_ | refine kA ?_ _)); exact BK190.out⟩, ⟨by repeat (first | (with_reducible first | exact HB.out | apply bA | apply bD | apply b1 | refine bS ?_ GE190.out) | exact HB.out)⟩⟩
                replace c21 := Bool.eq_false_iff.mpr c21
                subst c21
                have H1 : (if a0_2 < 0 then (stipendlaw08_CodeChecks.j5 kj16 80 a0_0 a0_1 a0_2 a0_3 a0_4) else (if a0_2 > 999999000 then (stipendlaw08_CodeChecks.j5 kj16 80 a0_0 a0_1 a0_2 a0_3 a0_4) else (if (Int.tmod a0_2 1000) = 0 then (if a0_1 = 2 then (stipendlaw08_CodeChecks.j3 kj16 0 (a0_2 == 0) a0_0 a0_1 a0_2 a0_3 a0_4) else (stipendlaw08_CodeChecks.j3 kj16 0 false a0_0 a0_1 a0_2 a0_3 a0_4)) else (stipendlaw08_CodeChecks.j5 kj16 80 a0_0 a0_1 a0_2 a0_3 a0_4)))) = some r := by rw [if_neg (show ¬ (false = true) by decide)] at H; exact H
                clear H
                have H := H1
                clear H1
                by_cases c22 : a0_2 < 0
                · rw [if_pos c22] at H
                  have c22b0 := decide_eq_true c22
                  clear c22
                  have H' := AM H
                  clear H
                  obtain ⟨_, _, _, _, _, _, _, _, _, _⟩ := bX5 BK190.out
                  go_wp2
                  go_meet
                  case rel => exact ⟨_, (80), (by first | rfl | (simp; done) | (simp [*]; done)), H', ⟨by have := HJ6.out; have := HJ11.out; have := HJ16.out; first | omega | exact Nat.le_refl _⟩, ⟨by (with_reducible repeat (first | refine kD ?_ _ | refine k1_ ?_ | refine kA ?_ _)); exact BK190.out⟩, ⟨by repeat (first | (with_reducible first | exact HB.out | apply bA | apply bD | apply b1 | refine bS ?_ GE190.out) | exact HB.out)⟩⟩
                rw [if_neg c22] at H
                have c22b0 := decide_eq_false c22
                clear c22
                by_cases c24 : a0_2 > 999999000
                · rw [if_pos c24] at H
                  have c24b0 : decide (999999000 < a0_2) = true := decide_eq_true c24
                  clear c24
                  have H' := AM H
                  clear H
                  obtain ⟨_, _, _, _, _, _, _, _, _, _⟩ := bX5 BK190.out
                  go_wp2
                  go_meet
                  case rel => exact ⟨_, (80), (by first | rfl | (simp; done) | (simp [*]; done)), H', ⟨by have := HJ6.out; have := HJ11.out; have := HJ16.out; first | omega | exact Nat.le_refl _⟩, ⟨by (with_reducible repeat (first | refine kD ?_ _ | refine k1_ ?_ | refine kA ?_ _)); exact BK190.out⟩, ⟨by repeat (first | (with_reducible first | exact HB.out | apply bA | apply bD | apply b1 | refine bS ?_ GE190.out) | exact HB.out)⟩⟩
                rw [if_neg c24] at H
                have c24b0 : decide (999999000 < a0_2) = false := decide_eq_false c24
                clear c24
                by_cases c26 : (Int.tmod a0_2 1000) = 0
                rotate_left
                · rw [if_neg c26] at H
                  have c26b0 : ((Int.tmod a0_2 1000) == 0) = false := beq_eq_false_iff_ne.mpr c26
                  have c26b1 : ((Int.tmod a0_2 1000) != 0) = true := bne_iff_ne.mpr c26
                  have H' := AM H
                  clear H
                  obtain ⟨_, _, _, _, _, _, _, _, _, _⟩ := bX5 BK190.out
                  go_wp2
                  go_meet
                  case rel => exact ⟨_, (80), (by first | rfl | (simp; done) | (simp [*]; done)), H', ⟨by have := HJ6.out; have := HJ11.out; have := HJ16.out; first | omega | exact Nat.le_refl _⟩, ⟨by (with_reducible repeat (first | refine kD ?_ _ | refine k1_ ?_ | refine kA ?_ _)); exact BK190.out⟩, ⟨by repeat (first | (with_reducible first | exact HB.out | apply bA | apply bD | apply b1 | refine bS ?_ GE190.out) | exact HB.out)⟩⟩
                rw [if_pos c26] at H
                have c26b0 : ((Int.tmod a0_2 1000) == 0) = true := beq_iff_eq.mpr c26
                have c26b1 : ((Int.tmod a0_2 1000) != 0) = false := bne_eq_false_iff_eq.mpr c26
                clear c26
                have HC27 := AM H
                clear H
                obtain ⟨_, _, _, _, _, _, _, _, _, _⟩ := bX5 BK190.out
                go_upto_region 11 with (fail)
                go_cut [22] (fun v22 wc => ∃ (kq : Nat) (x22_26 : Bool), v22 = .bool x22_26 ∧ Aside0 (stipendlaw08_CodeChecks.j3 kq 0 x22_26 a0_0 a0_1 a0_2 a0_3 a0_4 = some r) ∧ Aside0 (kq ≤ kj16) ∧ Aside0 (wc.heap[gb190]? = some (.cells #[.int .i64 a0_0, .int .i64 a0_1, .int .i64 a0_2, .int .i64 a0_3, .bool a0_4] 23 (0, 0))) ∧ Aside0 (Below w.heap.size w wc))
                case first =>
                  have H := HC27.out
                  clear HC27
                  by_cases c29 : a0_1 = 2
                  rotate_left
                  · rw [if_neg c29] at H
                    have c29b0 : (a0_1 == 2) = false := beq_eq_false_iff_ne.mpr c29
                    have c29b1 : (a0_1 != 2) = true := bne_iff_ne.mpr c29
                    (first | rw [c29b0] | (simp only [i64_w, i32_w]; rw [c29b0]) | skip)
                    have H' := AM H
                    clear H
                    obtain ⟨_, _, _, _, _, _, _, _, _, _⟩ := bX5 BK190.out
                    go_wp2
                    go_meet
                    case rel => exact ⟨_, (false), (by first | rfl | (simp; done) | (simp [*]; done)), H', ⟨by have := HJ6.out; have := HJ11.out; have := HJ16.out; first | omega | exact Nat.le_refl _⟩, ⟨by (with_reducible repeat (first | refine kD ?_ _ | refine k1_ ?_ | refine kA ?_ _)); exact BK190.out⟩, ⟨by repeat (first | (with_reducible first | exact HB.out | apply bA | apply bD | apply b1 | refine bS ?_ GE190.out) | exact HB.out)⟩⟩
                  rw [if_pos c29] at H
                  have c29b0 : (a0_1 == 2) = true := beq_iff_eq.mpr c29
                  have c29b1 : (a0_1 != 2) = false := bne_eq_false_iff_eq.mpr c29
                  clear c29
                  (first | rw [c29b0] | (simp only [i64_w, i32_w]; rw [c29b0]) | skip)
                  have H' := AM H
                  clear H
                  obtain ⟨_, _, _, _, _, _, _, _, _, _⟩ := bX5 BK190.out
                  go_wp2
                  go_meet
                  case rel => exact ⟨_, ((a0_2 == 0)), (by first | rfl | (simp; done) | (simp [*]; done)), H', ⟨by have := HJ6.out; have := HJ11.out; have := HJ16.out; first | omega | exact Nat.le_refl _⟩, ⟨by (with_reducible repeat (first | refine kD ?_ _ | refine k1_ ?_ | refine kA ?_ _)); exact BK190.out⟩, ⟨by repeat (first | (with_reducible first | exact HB.out | apply bA | apply bD | apply b1 | refine bS ?_ GE190.out) | exact HB.out)⟩⟩
                case rest =>
                  clear HC27
                  obtain ⟨kq, x22_26, rfl, HA, HJ26, BK190, HB⟩ := hcut
                  cases kq with
                  | zero => exact absurd HA.out (by simp [stipendlaw08_CodeChecks.j3])
                  | succ kj26 =>
                    have H := HA.out
                    clear HA
                    simp only [stipendlaw08_CodeChecks.j3] at H
                    by_cases c32 : x22_26 = true
                    · subst c32
                      have H1 : (stipendlaw08_CodeChecks.j5 kj26 80 a0_0 a0_1 a0_2 a0_3 a0_4) = some r := by rw [if_pos rfl] at H; exact H
                      clear H
                      have H := H1
                      clear H1
                      have H' := AM H
                      clear H
                      go_wp2
                      go_meet
                      case rel => exact ⟨_, (80), (by first | rfl | (simp; done) | (simp [*]; done)), H', ⟨by have := HJ6.out; have := HJ11.out; have := HJ16.out; have := HJ26.out; first | omega | exact Nat.le_refl _⟩, ⟨by (with_reducible repeat (first | refine kD ?_ _ | refine k1_ ?_ | refine kA ?_ _)); exact BK190.out⟩, ⟨by repeat (first | (with_reducible first | exact HB.out | apply bA | apply bD | apply b1 | refine bS ?_ GE190.out) | exact HB.out)⟩⟩
                    replace c32 := Bool.eq_false_iff.mpr c32
                    subst c32
                    have H1 : (if a0_1 = 3 then (stipendlaw08_CodeChecks.j4 kj26 0 false a0_0 a0_1 a0_2 a0_3 a0_4) else (stipendlaw08_CodeChecks.j4 kj26 0 (a0_3 != 0) a0_0 a0_1 a0_2 a0_3 a0_4)) = some r := by rw [if_neg (show ¬ (false = true) by decide)] at H; exact H
                    clear H
                    have H := H1
                    clear H1
                    have HC33 := AM H
                    clear H
                    go_upto_region 12 with (fail)
                    go_cut [22] (fun v22 wc => ∃ (kq : Nat) (x22_32 : Bool), v22 = .bool x22_32 ∧ Aside0 (stipendlaw08_CodeChecks.j4 kq 0 x22_32 a0_0 a0_1 a0_2 a0_3 a0_4 = some r) ∧ Aside0 (kq ≤ kj26) ∧ Aside0 (wc.heap[gb190]? = some (.cells #[.int .i64 a0_0, .int .i64 a0_1, .int .i64 a0_2, .int .i64 a0_3, .bool a0_4] 23 (0, 0))) ∧ Aside0 (Below w.heap.size w wc))
                    case first =>
                      have H := HC33.out
                      clear HC33
                      by_cases c34 : a0_1 = 3
                      rotate_left
                      · rw [if_neg c34] at H
                        have c34b0 : (a0_1 == 3) = false := beq_eq_false_iff_ne.mpr c34
                        have c34b1 : (a0_1 != 3) = true := bne_iff_ne.mpr c34
                        (first | rw [c34b0] | (simp only [i64_w, i32_w]; rw [c34b0]) | skip)
                        have H' := AM H
                        clear H
                        obtain ⟨_, _, _, _, _, _, _, _, _, _⟩ := bX5 BK190.out
                        go_wp2
                        go_meet
                        case rel => exact ⟨_, ((a0_3 != 0)), (by first | rfl | (simp; done) | (simp [*]; done)), H', ⟨by have := HJ6.out; have := HJ11.out; have := HJ16.out; have := HJ26.out; first | omega | exact Nat.le_refl _⟩, ⟨by (with_reducible repeat (first | refine kD ?_ _ | refine k1_ ?_ | refine kA ?_ _)); exact BK190.out⟩, ⟨by repeat (first | (with_reducible first | exact HB.out | apply bA | apply bD | apply b1 | refine bS ?_ GE190.out) | exact HB.out)⟩⟩
                      rw [if_pos c34] at H
                      have c34b0 : (a0_1 == 3) = true := beq_iff_eq.mpr c34
                      have c34b1 : (a0_1 != 3) = false := bne_eq_false_iff_eq.mpr c34
                      clear c34
                      (first | rw [c34b0] | (simp only [i64_w, i32_w]; rw [c34b0]) | skip)
                      have H' := AM H
                      clear H
                      obtain ⟨_, _, _, _, _, _, _, _, _, _⟩ := bX5 BK190.out
                      go_wp2
                      go_meet
                      case rel => exact ⟨_, (false), (by first | rfl | (simp; done) | (simp [*]; done)), H', ⟨by have := HJ6.out; have := HJ11.out; have := HJ16.out; have := HJ26.out; first | omega | exact Nat.le_refl _⟩, ⟨by (with_reducible repeat (first | refine kD ?_ _ | refine k1_ ?_ | refine kA ?_ _)); exact BK190.out⟩, ⟨by repeat (first | (with_reducible first | exact HB.out | apply bA | apply bD | apply b1 | refine bS ?_ GE190.out) | exact HB.out)⟩⟩
                    case rest =>
                      clear HC33
                      obtain ⟨kq, x22_32, rfl, HA, HJ32, BK190, HB⟩ := hcut
                      cases kq with
                      | zero => exact absurd HA.out (by simp [stipendlaw08_CodeChecks.j4])
                      | succ kj32 =>
                        have H := HA.out
                        clear HA
                        simp only [stipendlaw08_CodeChecks.j4] at H
                        by_cases c37 : x22_32 = true
                        · subst c37
                          have H1 : (stipendlaw08_CodeChecks.j5 kj32 80 a0_0 a0_1 a0_2 a0_3 a0_4) = some r := by rw [if_pos rfl] at H; exact H
                          clear H
                          have H := H1
                          clear H1
                          have H' := AM H
                          clear H
                          go_wp2
                          go_meet
                          case rel => exact ⟨_, (80), (by first | rfl | (simp; done) | (simp [*]; done)), H', ⟨by have := HJ6.out; have := HJ11.out; have := HJ16.out; have := HJ26.out; have := HJ32.out; first | omega | exact Nat.le_refl _⟩, ⟨by (with_reducible repeat (first | refine kD ?_ _ | refine k1_ ?_ | refine kA ?_ _)); exact BK190.out⟩, ⟨by repeat (first | (with_reducible first | exact HB.out | apply bA | apply bD | apply b1 | refine bS ?_ GE190.out) | exact HB.out)⟩⟩
                        replace c37 := Bool.eq_false_iff.mpr c37
                        subst c37
                        have H1 : (if a0_3 < 0 then (stipendlaw08_CodeChecks.j5 kj32 80 a0_0 a0_1 a0_2 a0_3 a0_4) else (if a0_3 > 7 then (stipendlaw08_CodeChecks.j5 kj32 80 a0_0 a0_1 a0_2 a0_3 a0_4) else (stipendlaw08_CodeChecks.j5 kj32 0 a0_0 a0_1 a0_2 a0_3 a0_4))) = some r := by rw [if_neg (show ¬ (false = true) by decide)] at H; exact H
                        clear H
                        have H := H1
                        clear H1
                        by_cases c38 : a0_3 < 0
                        · rw [if_pos c38] at H
                          have c38b0 := decide_eq_true c38
                          clear c38
                          have H' := AM H
                          clear H
                          obtain ⟨_, _, _, _, _, _, _, _, _, _⟩ := bX5 BK190.out
                          go_wp2
                          go_meet
                          case rel => exact ⟨_, (80), (by first | rfl | (simp; done) | (simp [*]; done)), H', ⟨by have := HJ6.out; have := HJ11.out; have := HJ16.out; have := HJ26.out; have := HJ32.out; first | omega | exact Nat.le_refl _⟩, ⟨by (with_reducible repeat (first | refine kD ?_ _ | refine k1_ ?_ | refine kA ?_ _)); exact BK190.out⟩, ⟨by repeat (first | (with_reducible first | exact HB.out | apply bA | apply bD | apply b1 | refine bS ?_ GE190.out) | exact HB.out)⟩⟩
                        rw [if_neg c38] at H
                        have c38b0 := decide_eq_false c38
                        clear c38
                        by_cases c40 : a0_3 > 7
                        · rw [if_pos c40] at H
                          have c40b0 : decide (7 < a0_3) = true := decide_eq_true c40
                          clear c40
                          have H' := AM H
                          clear H
                          obtain ⟨_, _, _, _, _, _, _, _, _, _⟩ := bX5 BK190.out
                          go_wp2
                          go_meet
                          case rel => exact ⟨_, (80), (by first | rfl | (simp; done) | (simp [*]; done)), H', ⟨by have := HJ6.out; have := HJ11.out; have := HJ16.out; have := HJ26.out; have := HJ32.out; first | omega | exact Nat.le_refl _⟩, ⟨by (with_reducible repeat (first | refine kD ?_ _ | refine k1_ ?_ | refine kA ?_ _)); exact BK190.out⟩, ⟨by repeat (first | (with_reducible first | exact HB.out | apply bA | apply bD | apply b1 | refine bS ?_ GE190.out) | exact HB.out)⟩⟩
                        rw [if_neg c40] at H
                        have c40b0 : decide (7 < a0_3) = false := decide_eq_false c40
                        clear c40
                        have H' := AM H
                        clear H
                        obtain ⟨_, _, _, _, _, _, _, _, _, _⟩ := bX5 BK190.out
                        go_wp2
                        go_meet
                        case rel => exact ⟨_, (0), (by first | rfl | (simp; done) | (simp [*]; done)), H', ⟨by have := HJ6.out; have := HJ11.out; have := HJ16.out; have := HJ26.out; have := HJ32.out; first | omega | exact Nat.le_refl _⟩, ⟨by (with_reducible repeat (first | refine kD ?_ _ | refine k1_ ?_ | refine kA ?_ _)); exact BK190.out⟩, ⟨by repeat (first | (with_reducible first | exact HB.out | apply bA | apply bD | apply b1 | refine bS ?_ GE190.out) | exact HB.out)⟩⟩
  case rest =>
    clear HC4
    obtain ⟨kq, x3_3, rfl, HA, HJ3, BK190, HB⟩ := hcut
    cases kq with
    | zero => exact absurd HA.out (by simp [stipendlaw08_CodeChecks.j5])
    | succ kj3 =>
      have H := HA.out
      clear HA
      simp only [stipendlaw08_CodeChecks.j5] at H
      replace H := Option.bind_eq_some_iff.mp H
      obtain ⟨t192, A440, H⟩ := H
      replace H : ((code_Check.f kj3 a0_0 a0_1 a0_2 a0_3 a0_4).bind fun t193 => (if t193 = x3_3 then (stipendlaw08_CodeChecks.j6 kj3 x3_3 t192 ((t192.toList == ([] : List UInt8)) != (x3_3 != 0)) a0_0 a0_1 a0_2 a0_3 a0_4) else (stipendlaw08_CodeChecks.j6 kj3 x3_3 t192 true a0_0 a0_1 a0_2 a0_3 a0_4))) = some r := H
      have A44 := AM A440
      clear A440
      have HC45 := AM H
      clear H
      obtain ⟨_, _, _, _, _, _, _, _, _, _⟩ := bX5 BK190.out
      go_upto_region 17 with (first | ((with_reducible refine gC (f := 11) rfl ?_); refine gL (some 72) rfl rfl Tryd.func11 (by kernel_rfl) rfl #[.agg #[.int .i64 a0_0, .int .i64 a0_1, .int .i64 a0_2, .int .i64 a0_3, .bool a0_4]] rfl (by (try simp only [List.map_toArray, List.map_cons, List.map_nil]); first | done | rfl | (simp only [List.length_drop, List.length_take]; rfl)) ?_; (with_reducible refine (code_Text.calls kj3 a0_0 a0_1 a0_2 a0_3 a0_4 t192 _ A44.out (tQ htb)).mono ?_); rintro e w47 ⟨rfl, hb⟩; refine ⟨_, rfl, ?_⟩; have n0_ := AM (kB (g := gb190) (o := .cells #[.int .i64 a0_0, .int .i64 a0_1, .int .i64 a0_2, .int .i64 a0_3, .bool a0_4] 23 (0, 0)) (kW BK190) hb); have n1_ := AM (bT bQ hb); clear BK190; clear HB; have BK190 := n0_; have HB := n1_; clear n0_ n1_; (try clear hb); (try clear hb2); (try clear hk); (try clear hi)))
      (try simp only [Act.put, List.setIfInBounds_toArray, List.set_cons_zero, List.set_cons_succ])
      go_cut [83] (fun v83 wc => ∃ (kq : Nat) (x83_44 : Bool), v83 = .bool x83_44 ∧ Aside0 (stipendlaw08_CodeChecks.j6 kq x3_3 t192 x83_44 a0_0 a0_1 a0_2 a0_3 a0_4 = some r) ∧ Aside0 (kq ≤ kj3) ∧ Aside0 (wc.heap[gb190]? = some (.cells #[.int .i64 a0_0, .int .i64 a0_1, .int .i64 a0_2, .int .i64 a0_3, .bool a0_4] 23 (0, 0))) ∧ Aside0 (Below w.heap.size w wc))
      case first =>
        have H := HC45.out
        clear HC45
        replace H := Option.bind_eq_some_iff.mp H
        obtain ⟨t193, A480, H⟩ := H
        replace H : (if t193 = x3_3 then (stipendlaw08_CodeChecks.j6 kj3 x3_3 t192 ((t192.toList == ([] : List UInt8)) != (x3_3 != 0)) a0_0 a0_1 a0_2 a0_3 a0_4) else (stipendlaw08_CodeChecks.j6 kj3 x3_3 t192 true a0_0 a0_1 a0_2 a0_3 a0_4)) = some r := H
        have A48 := AM A480
        clear A480
        by_cases c49 : t193 = x3_3
        rotate_left
        · rw [if_neg c49] at H
          have c49b0 : (t193 == x3_3) = false := beq_eq_false_iff_ne.mpr c49
          have c49b1 : (t193 != x3_3) = true := bne_iff_ne.mpr c49
          (first | rw [c49b0] | (simp only [i64_w, i32_w]; rw [c49b0]) | skip)
          have H' := AM H
          clear H
          obtain ⟨_, _, _, _, _, _, _, _, _, _⟩ := bX5 BK190.out
          go_wp2_with (first | ((with_reducible refine gC (f := 12) rfl ?_); refine gL (some 74) rfl rfl Tryd.func12 (by kernel_rfl) rfl #[.agg #[.int .i64 a0_0, .int .i64 a0_1, .int .i64 a0_2, .int .i64 a0_3, .bool a0_4]] rfl (by (try simp only [List.map_toArray, List.map_cons, List.map_nil]); first | done | rfl | (simp only [List.length_drop, List.length_take]; rfl)) ?_; (with_reducible refine (code_Check.calls kj3 a0_0 a0_1 a0_2 a0_3 a0_4 t193 _ A48.out).mono ?_); rintro e w53 ⟨rfl, hb⟩; refine ⟨_, rfl, ?_⟩; have n0_ := AM (kB (g := gb190) (o := .cells #[.int .i64 a0_0, .int .i64 a0_1, .int .i64 a0_2, .int .i64 a0_3, .bool a0_4] 23 (0, 0)) (kW BK190) hb); have n1_ := AM (bT bQ hb); clear BK190; clear HB; have BK190 := n0_; have HB := n1_; clear n0_ n1_; (try clear hb); (try clear hb2); (try clear hk); (try clear hi)))
          go_meet
          case rel => exact ⟨_, (true), (by first | rfl | (simp; done) | (simp [*]; done)), H', ⟨by have := HJ3.out; first | omega | exact Nat.le_refl _⟩, ⟨by (with_reducible repeat (first | refine kD ?_ _ | refine k1_ ?_ | refine kA ?_ _)); exact BK190.out⟩, ⟨by repeat (first | (with_reducible first | exact HB.out | apply bA | apply bD | apply b1 | refine bS ?_ GE190.out) | exact HB.out)⟩⟩
        rw [if_pos c49] at H
        have c49b0 : (t193 == x3_3) = true := beq_iff_eq.mpr c49
        have c49b1 : (t193 != x3_3) = false := bne_eq_false_iff_eq.mpr c49
        clear c49
        (first | rw [c49b0] | (simp only [i64_w, i32_w]; rw [c49b0]) | skip)
        have H' := AM H
        clear H
        obtain ⟨_, _, _, _, _, _, _, _, _, _⟩ := bX5 BK190.out
        go_wp2_with (first | ((with_reducible refine gC (f := 12) rfl ?_); refine gL (some 74) rfl rfl Tryd.func12 (by kernel_rfl) rfl #[.agg #[.int .i64 a0_0, .int .i64 a0_1, .int .i64 a0_2, .int .i64 a0_3, .bool a0_4]] rfl (by (try simp only [List.map_toArray, List.map_cons, List.map_nil]); first | done | rfl | (simp only [List.length_drop, List.length_take]; rfl)) ?_; (with_reducible refine (code_Check.calls kj3 a0_0 a0_1 a0_2 a0_3 a0_4 t193 _ A48.out).mono ?_); rintro e w51 ⟨rfl, hb⟩; refine ⟨_, rfl, ?_⟩; have n0_ := AM (kB (g := gb190) (o := .cells #[.int .i64 a0_0, .int .i64 a0_1, .int .i64 a0_2, .int .i64 a0_3, .bool a0_4] 23 (0, 0)) (kW BK190) hb); have n1_ := AM (bT bQ hb); clear BK190; clear HB; have BK190 := n0_; have HB := n1_; clear n0_ n1_; (try clear hb); (try clear hb2); (try clear hk); (try clear hi)))
        go_meet
        case rel => exact ⟨_, (((t192.toList == ([] : List UInt8)) != (x3_3 != 0))), (by first | rfl | (simp; done) | (simp [*]; done) | (simp [*]; cases t192.toList.isEmpty <;> cases (x3_3 != 0) <;> rfl)), H', ⟨by have := HJ3.out; first | omega | exact Nat.le_refl _⟩, ⟨by (with_reducible repeat (first | refine kD ?_ _ | refine k1_ ?_ | refine kA ?_ _)); exact BK190.out⟩, ⟨by repeat (first | (with_reducible first | exact HB.out | apply bA | apply bD | apply b1 | refine bS ?_ GE190.out) | exact HB.out)⟩⟩
      case rest =>
        clear HC45
        obtain ⟨kq, x83_44, rfl, HA, HJ44, BK190, HB⟩ := hcut
        cases kq with
        | zero => exact absurd HA.out (by simp [stipendlaw08_CodeChecks.j6])
        | succ kj44 =>
          have H := HA.out
          clear HA
          simp only [stipendlaw08_CodeChecks.j6] at H
          by_cases c54 : x83_44 = true
          · subst c54
            have H1 : (some false) = some r := by rw [if_pos rfl] at H; exact H
            clear H
            have H := H1
            clear H1
            exact absurd (Option.some.inj H) (by rw [HRT.out]; decide)
          replace c54 := Bool.eq_false_iff.mpr c54
          subst c54
          have H1 : (if x3_3 = 0 then ((code_Parse.f kj44 t192).bind fun bt194 => (if bt194.2.2.2.2.2 = 0 then (some (bt194.1 == a0_0 && (bt194.2.1 == a0_1 && (bt194.2.2.1 == a0_2 && (bt194.2.2.2.1 == a0_3 && (bt194.2.2.2.2.1 == a0_4)))))) else (some false))) else ((code_Free.f kj44 a0_0 a0_1 a0_2 a0_3 a0_4 1 1).bind fun bt201 => ((code_Charge.f kj44 a0_0 a0_1 a0_2 a0_3 a0_4 5 1 1).bind fun bt203 => (if bt201.2 = x3_3 then (if bt203.2 = x3_3 then (if bt201.1 = 0 then (some (bt203.1 == 0)) else (some false)) else (some false)) else (some false))))) = some r := by rw [if_neg (show ¬ (false = true) by decide)] at H; exact H
          clear H
          have H := H1
          clear H1
          by_cases c55 : x3_3 = 0
          · rw [if_pos c55] at H
            have c55b0 : (x3_3 == 0) = true := beq_iff_eq.mpr c55
            have c55b1 : (x3_3 != 0) = false := bne_eq_false_iff_eq.mpr c55
            clear c55
            replace H := Option.bind_eq_some_iff.mp H
            obtain ⟨⟨t194, t195, t196, t197, t198, t199⟩, A560, H⟩ := H
            replace H : (if t199 = 0 then (some (t194 == a0_0 && (t195 == a0_1 && (t196 == a0_2 && (t197 == a0_3 && (t198 == a0_4)))))) else (some false)) = some r := H
            have A56 := AM A560
            clear A560
            by_cases c57 : t199 = 0
            rotate_left
            · rw [if_neg c57] at H
              have c57b0 : (t199 == 0) = false := beq_eq_false_iff_ne.mpr c57
              have c57b1 : (t199 != 0) = true := bne_iff_ne.mpr c57
              exact absurd (Option.some.inj H) (by rw [HRT.out]; decide)
            rw [if_pos c57] at H
            have c57b0 : (t199 == 0) = true := beq_iff_eq.mpr c57
            have c57b1 : (t199 != 0) = false := bne_eq_false_iff_eq.mpr c57
            clear c57
            obtain rfl := Option.some.inj H
            go_wp2_with (first | ((with_reducible refine gC (f := 9) rfl ?_); refine gL (some 114) rfl rfl Tryd.func9 (by kernel_rfl) rfl #[.string t192] rfl (by (try simp only [List.map_toArray, List.map_cons, List.map_nil]); first | done | rfl | (simp only [List.length_drop, List.length_take]; rfl)) ?_; (with_reducible refine (code_Parse.calls kj44 t192 t194 t195 t196 t197 t198 t199 _ A56.out).mono ?_); rintro e w58 ⟨rfl, hb⟩; refine ⟨_, rfl, ?_⟩; have n0_ := AM (kB (g := gb190) (o := .cells #[.int .i64 a0_0, .int .i64 a0_1, .int .i64 a0_2, .int .i64 a0_3, .bool a0_4] 23 (0, 0)) (kW BK190) hb); have n1_ := AM (bT bQ hb); clear BK190; clear HB; have BK190 := n0_; have HB := n1_; clear n0_ n1_; (try clear hb); (try clear hb2); (try clear hk); (try clear hi)) | ((with_reducible refine gD (N := 9) rfl ?_); refine bE ?hg (N := 9) ?hd (cs := #[.int .i64 0, .int .i64 0, .int .i64 0, .int .i64 0, .bool false]) (t := 23) ?hr ?_; (case hd => rfl); (case hg => rfl); (case hr => first | (go_simp; done) | (go_simp; rfl)); intro gb200 hg w59 hbox hb; have n0_ := AM (kB (g := gb190) (o := .cells #[.int .i64 a0_0, .int .i64 a0_1, .int .i64 a0_2, .int .i64 a0_3, .bool a0_4] 23 (0, 0)) (kW BK190) hb); have n1_ := AM (bT bQ hb); have n2_ := AM (hbox); have n3_ := AM ((by rw [hg]; exact (bZ bQ) : w.heap.size ≤ gb200)); have n4_ := AM ((by rw [hg]; exact (bZ bQ) : w.heap.size ≤ gb200)); have n5_ := AM ((by rw [hg]; exact Nat.ne_of_lt (blk_lt (g := gb190) (o := .cells #[.int .i64 a0_0, .int .i64 a0_1, .int .i64 a0_2, .int .i64 a0_3, .bool a0_4] 23 (0, 0)) (kW BK190)) : gb190 ≠ gb200)); have n6_ := AM ((by rw [hg]; exact Nat.ne_of_gt (blk_lt (g := gb190) (o := .cells #[.int .i64 a0_0, .int .i64 a0_1, .int .i64 a0_2, .int .i64 a0_3, .bool a0_4] 23 (0, 0)) (kW BK190)) : gb200 ≠ gb190)); clear BK190; clear HB; have BK190 := n0_; have HB := n1_; have BK200 := n2_; have GW200 := n3_; have GE200 := n4_; have NB190_200 := n5_; have NB200_190 := n6_; clear n0_ n1_ n2_ n3_ n4_ n5_ n6_; clear hb hbox hg; have hnb60 := NB200_190.out; have hnc60 := NB190_200.out; obtain ⟨_, _, _, _, _, _, _, _, _, _⟩ := bX5 BK200.out; obtain ⟨_, _, _, _, _, _, _, _, _, _⟩ := bX5 BK190.out))
            go_ret
            exact ⟨by first | rfl | (simp [errW_none, errW_some] <;> rfl) | (simp [*, errW_none, errW_some] <;> rfl), by repeat (first | (with_reducible first | exact HB.out | apply bA | apply bD | apply b1 | refine bS ?_ GE190.out | refine bS ?_ GE200.out) | exact HB.out)⟩
          rw [if_neg c55] at H
          have c55b0 : (x3_3 == 0) = false := beq_eq_false_iff_ne.mpr c55
          have c55b1 : (x3_3 != 0) = true := bne_iff_ne.mpr c55
          replace H := Option.bind_eq_some_iff.mp H
          obtain ⟨⟨t201, t202⟩, A630, H⟩ := H
          replace H : ((code_Charge.f kj44 a0_0 a0_1 a0_2 a0_3 a0_4 5 1 1).bind fun bt203 => (if t202 = x3_3 then (if bt203.2 = x3_3 then (if t201 = 0 then (some (bt203.1 == 0)) else (some false)) else (some false)) else (some false))) = some r := H
          have A63 := AM A630
          clear A630
          replace H := Option.bind_eq_some_iff.mp H
          obtain ⟨⟨t203, t204⟩, A640, H⟩ := H
          replace H : (if t202 = x3_3 then (if t204 = x3_3 then (if t201 = 0 then (some (t203 == 0)) else (some false)) else (some false)) else (some false)) = some r := H
          have A64 := AM A640
          clear A640
          by_cases c65 : t202 = x3_3
          rotate_left
          · rw [if_neg c65] at H
            have c65b0 : (t202 == x3_3) = false := beq_eq_false_iff_ne.mpr c65
            have c65b1 : (t202 != x3_3) = true := bne_iff_ne.mpr c65
            exact absurd (Option.some.inj H) (by rw [HRT.out]; decide)
          rw [if_pos c65] at H
          have c65b0 : (t202 == x3_3) = true := beq_iff_eq.mpr c65
          have c65b1 : (t202 != x3_3) = false := bne_eq_false_iff_eq.mpr c65
          clear c65
          by_cases c66 : t204 = x3_3
          rotate_left
          · rw [if_neg c66] at H
            have c66b0 : (t204 == x3_3) = false := beq_eq_false_iff_ne.mpr c66
            have c66b1 : (t204 != x3_3) = true := bne_iff_ne.mpr c66
            exact absurd (Option.some.inj H) (by rw [HRT.out]; decide)
          rw [if_pos c66] at H
          have c66b0 : (t204 == x3_3) = true := beq_iff_eq.mpr c66
          have c66b1 : (t204 != x3_3) = false := bne_eq_false_iff_eq.mpr c66
          clear c66
          by_cases c67 : t201 = 0
          rotate_left
          · rw [if_neg c67] at H
            have c67b0 : (t201 == 0) = false := beq_eq_false_iff_ne.mpr c67
            have c67b1 : (t201 != 0) = true := bne_iff_ne.mpr c67
            exact absurd (Option.some.inj H) (by rw [HRT.out]; decide)
          rw [if_pos c67] at H
          have c67b0 : (t201 == 0) = true := beq_iff_eq.mpr c67
          have c67b1 : (t201 != 0) = false := bne_eq_false_iff_eq.mpr c67
          clear c67
          obtain rfl := Option.some.inj H
          obtain ⟨_, _, _, _, _, _, _, _, _, _⟩ := bX5 BK190.out
          go_wp2_with (first | ((with_reducible refine gC (f := 15) rfl ?_); refine gL (some 88) rfl rfl Tryd.func15 (by kernel_rfl) rfl #[.agg #[.int .i64 a0_0, .int .i64 a0_1, .int .i64 a0_2, .int .i64 a0_3, .bool a0_4], .int .i64 1, .int .i64 1] rfl (by (try simp only [List.map_toArray, List.map_cons, List.map_nil]); first | done | rfl | (simp only [List.length_drop, List.length_take]; rfl)) ?_; (with_reducible refine (code_Free.calls kj44 a0_0 a0_1 a0_2 a0_3 a0_4 1 1 t201 t202 _ A63.out).mono ?_); rintro e w69 ⟨rfl, hb⟩; refine ⟨_, rfl, ?_⟩; have n0_ := AM (kB (g := gb190) (o := .cells #[.int .i64 a0_0, .int .i64 a0_1, .int .i64 a0_2, .int .i64 a0_3, .bool a0_4] 23 (0, 0)) (kW BK190) hb); have n1_ := AM (bT bQ hb); clear BK190; clear HB; have BK190 := n0_; have HB := n1_; clear n0_ n1_; (try clear hb); (try clear hb2); (try clear hk); (try clear hi); obtain ⟨_, _, _, _, _, _, _, _, _, _⟩ := bX5 BK190.out) | ((with_reducible refine gC (f := 17) rfl ?_); refine gL (some 93) rfl rfl Tryd.func17 (by kernel_rfl) rfl #[.agg #[.int .i64 a0_0, .int .i64 a0_1, .int .i64 a0_2, .int .i64 a0_3, .bool a0_4], .int .i64 5, .int .i64 1, .int .i64 1] rfl (by (try simp only [List.map_toArray, List.map_cons, List.map_nil]); first | done | rfl | (simp only [List.length_drop, List.length_take]; rfl)) ?_; (with_reducible refine (code_Charge.calls kj44 a0_0 a0_1 a0_2 a0_3 a0_4 5 1 1 t203 t204 _ A64.out).mono ?_); rintro e w71 ⟨rfl, hb⟩; refine ⟨_, rfl, ?_⟩; have n0_ := AM (kB (g := gb190) (o := .cells #[.int .i64 a0_0, .int .i64 a0_1, .int .i64 a0_2, .int .i64 a0_3, .bool a0_4] 23 (0, 0)) (kW BK190) hb); have n1_ := AM (bT bQ hb); clear BK190; clear HB; have BK190 := n0_; have HB := n1_; clear n0_ n1_; (try clear hb); (try clear hb2); (try clear hk); (try clear hi)))
          go_ret
          exact ⟨by first | rfl | (simp [errW_none, errW_some] <;> rfl) | (simp [*, errW_none, errW_some] <;> rfl), by repeat (first | (with_reducible first | exact HB.out | apply bA | apply bD | apply b1 | refine bS ?_ GE190.out) | exact HB.out)⟩
end Go.Proofs.YtodijkdmcjnpkaaDoor.K
