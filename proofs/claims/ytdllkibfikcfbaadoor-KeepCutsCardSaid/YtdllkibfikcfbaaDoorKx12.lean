-- by a program of this session, over the kit's printer
import Derived.Test.YtdllkibfikcfbaaDoorKx0
namespace Go.Proofs.YtdllkibfikcfbaaDoor.K
open Go.RowKit Go.Proofs.YtdllkibfikcfbaaDoorW.PrintWords Go.Proofs.YtdllkibfikcfbaaDoorW.PrintLast Go.Proofs.YtdllkibfikcfbaaDoorW.PrintMore
attribute [local go_sem] max2_int min2_int max_two min_two max_three min_three max_four min_four   -- for this text's walks alone
set_option linter.unusedVariables false
set_option linter.unusedSimpArgs false

/-! ### stipendlaw10_small: function 8 -/
mutual
def stipendlaw10_small.j0 : Nat → Bool → List (List (S41)) → List (S43) → List (S58) → Int → Int → Option (Bool)
  | 0, _, _, _, _, _, _ => none
  | k + 1, x22, x224000, x224001, x224002, x224003, x224004 => if x22 = true then (some false) else (stipendlaw10_small.l0 k x224000 (x224000.length : Int) 0 x224000 x224001 x224002 x224003 x224004)
def stipendlaw10_small.l0 : Nat → List (List (S41)) → Int → Int → List (List (S41)) → List (S43) → List (S58) → Int → Int → Option (Bool)
  | 0, _, _, _, _, _, _, _, _ => none
  | k + 1, x24, x25, x26, x224000, x224001, x224002, x224003, x224004 => if x26 < x25 then (if 0 ≤ x26 then (if x26 < (x24.length : Int) then (if ((rd_L2 x24 x26).length : Int) > 20 then (some false) else (stipendlaw10_small.l0 k x24 x25 (wrap64 (x26 + 1)) x224000 x224001 x224002 x224003 x224004)) else (none)) else (none)) else (stipendlaw10_small.l1 k x224001 (x224001.length : Int) 0)
def stipendlaw10_small.l1 : Nat → List (S43) → Int → Int → Option (Bool)
  | 0, _, _, _ => none
  | k + 1, x35, x36, x37 => if x37 < x36 then (if 0 ≤ x37 then (if x37 < (x35.length : Int) then (if (((rd_T43 x35 x37).f2).length : Int) > 20 then (some false) else (if (((rd_T43 x35 x37).f0).size : Int) > 60 then (some false) else (stipendlaw10_small.l1 k x35 x36 (wrap64 (x37 + 1))))) else (none)) else (none)) else (some true)
end
def stipendlaw10_small.f (k : Nat) (l0_0 : List (List (S41))) (l0_1 : List (S43)) (l0_2 : List (S58)) (a0_3 : Int) (a0_4 : Int) : Option (Bool) := if (l0_0.length : Int) > 20 then (stipendlaw10_small.j0 k true l0_0 l0_1 l0_2 a0_3 a0_4) else (if (l0_1.length : Int) > 20 then (stipendlaw10_small.j0 k true l0_0 l0_1 l0_2 a0_3 a0_4) else (stipendlaw10_small.j0 k (decide ((l0_2.length : Int) > 30)) l0_0 l0_1 l0_2 a0_3 a0_4))
set_option maxHeartbeats 8000000 in
set_option maxRecDepth 100000 in
theorem stipendlaw10_small.calls (k : Nat) (A0_0 : Option Addr) (c0_0 : Nat) (l0_0 : List (List (S41))) (A0_1 : Option Addr) (c0_1 : Nat) (l0_1 : List (S43)) (A0_2 : Option Addr) (c0_2 : Nat) (l0_2 : List (S58)) (a0_3 : Int) (a0_4 : Int) (r : Bool) (w : World) (hr0_0 : Kd.C (Kd.slice 52 k41) w A0_0 l0_0.length l0_0) (hc0_0 : l0_0.length ≤ c0_0) (hr0_1 : Kd.C k43 w A0_1 l0_1.length l0_1) (hc0_1 : l0_1.length ≤ c0_1) (hr0_2 : Kd.C k58 w A0_2 l0_2.length l0_2) (hc0_2 : l0_2.length ≤ c0_2) (h : stipendlaw10_small.f k l0_0 l0_1 l0_2 a0_3 a0_4 = some r) :
    Calls Tryd.prog 5 #[.agg #[.slice A0_0 l0_0.length c0_0, .slice A0_1 l0_1.length c0_1, .slice A0_2 l0_2.length c0_2, .int .i64 a0_3, .int .i64 a0_4]] w fun e w' => e = .returned (.bool r) ∧ Below w.heap.size w w' := by
  have hu26 := Tryd.underlying26
  have hu43 := Tryd.underlying49
  have HR0_0 := AM hr0_0
  have HC0_0 := AM hc0_0
  clear hr0_0 hc0_0
  have HR0_1 := AM hr0_1
  have HC0_1 := AM hc0_1
  clear hr0_1 hc0_1
  have HR0_2 := AM hr0_2
  have HC0_2 := AM hc0_2
  clear hr0_2 hc0_2
  have HB := AM (Below.refl w.heap.size w)
  have H : (if (l0_0.length : Int) > 20 then (stipendlaw10_small.j0 k true l0_0 l0_1 l0_2 a0_3 a0_4) else (if (l0_1.length : Int) > 20 then (stipendlaw10_small.j0 k true l0_0 l0_1 l0_2 a0_3 a0_4) else (stipendlaw10_small.j0 k (decide ((l0_2.length : Int) > 30)) l0_0 l0_1 l0_2 a0_3 a0_4))) = some r := h
  clear h
  have HC2 := AM H
  clear H
  go_enter Tryd.func5, Tryd.ntmps5
  go_upto_region 1 with (first | ((with_reducible refine gD (N := 1) rfl ?_); (try (refine gG (by rfl) ?_; dsimp only)); refine bE ?hg (N := 1) ?hd (cs := #[.slice A0_0 l0_0.length c0_0, .slice A0_1 l0_1.length c0_1, .slice A0_2 l0_2.length c0_2, .int .i64 a0_3, .int .i64 a0_4]) (t := 26) ?hr ?_; (case hd => rfl); (case hg => rfl); (case hr => first | (go_simp; done) | (go_simp; rfl)); intro gb223 hg w3 hbox hb; have n0_ := AM (bT bQ hb); have n1_ := AM (hbox); have n2_ := AM ((by rw [hg]; exact (bZ bQ) : w.heap.size ≤ gb223)); have n3_ := AM ((by rw [hg]; exact (bZ bQ) : w.heap.size ≤ gb223)); clear HB; have HB := n0_; have BK223 := n1_; have GW223 := n2_; have GE223 := n3_; clear n0_ n1_ n2_ n3_; clear hb hbox hg))
  (try simp only [Act.put, List.setIfInBounds_toArray, List.set_cons_zero, List.set_cons_succ])
  go_cut [22] (fun v22 wc => ∃ (kq : Nat) (x22_1 : Bool), v22 = .bool x22_1 ∧ Aside0 (stipendlaw10_small.j0 kq x22_1 l0_0 l0_1 l0_2 a0_3 a0_4 = some r) ∧ Aside0 (kq ≤ k) ∧ Aside0 (wc.heap[gb223]? = some (.cells #[(.slice A0_0 l0_0.length c0_0), (.slice A0_1 l0_1.length c0_1), (.slice A0_2 l0_2.length c0_2), .int .i64 a0_3, .int .i64 a0_4] 26 (0, 0))) ∧ Aside0 (Below w.heap.size w wc))
  case first =>
    have H := HC2.out
    clear HC2
    by_cases c4 : (l0_0.length : Int) > 20
    · rw [if_pos c4] at H
      have c4b0 := decide_eq_true c4
      have c4b1 : decide (20 < l0_0.length) = true := decide_eq_true (by omega)
      clear c4
      (first | rw [c4b0] | (simp only [i64_w, i32_w]; rw [c4b0]) | skip)
      have H' := AM H
      clear H
      obtain ⟨_, _, _, _, _, _, _, _, _, _⟩ := bX5 BK223.out
      go_wp2
      go_meet
      case rel => exact ⟨_, (true), (by first | rfl | (simp; done) | (simp [*]; done)), H', ⟨by first | omega | exact Nat.le_refl _⟩, ⟨by (with_reducible repeat (first | refine kD ?_ _ | refine k1_ ?_ | refine kA ?_ _)); exact BK223.out⟩, ⟨by repeat (first | (with_reducible first | exact HB.out | apply bA | apply bD | apply b1 | refine bS ?_ GE223.out) | exact HB.out)⟩⟩
    rw [if_neg c4] at H
    have c4b0 := decide_eq_false c4
    have c4b1 : decide (20 < l0_0.length) = false := decide_eq_false (by omega)
    clear c4
    (first | rw [c4b0] | (simp only [i64_w, i32_w]; rw [c4b0]) | skip)
    by_cases c6 : (l0_1.length : Int) > 20
    · rw [if_pos c6] at H
      have c6b0 := decide_eq_true c6
      have c6b1 : decide (20 < l0_1.length) = true := decide_eq_true (by omega)
      clear c6
      have H' := AM H
      clear H
      obtain ⟨_, _, _, _, _, _, _, _, _, _⟩ := bX5 BK223.out
      go_wp2
      go_meet
      case rel => exact ⟨_, (true), (by first | rfl | (simp; done) | (simp [*]; done)), H', ⟨by first | omega | exact Nat.le_refl _⟩, ⟨by (with_reducible repeat (first | refine kD ?_ _ | refine k1_ ?_ | refine kA ?_ _)); exact BK223.out⟩, ⟨by repeat (first | (with_reducible first | exact HB.out | apply bA | apply bD | apply b1 | refine bS ?_ GE223.out) | exact HB.out)⟩⟩
    rw [if_neg c6] at H
    have c6b0 := decide_eq_false c6
    have c6b1 : decide (20 < l0_1.length) = false := decide_eq_false (by omega)
    clear c6
    have H' := AM H
    clear H
    obtain ⟨_, _, _, _, _, _, _, _, _, _⟩ := bX5 BK223.out
    go_wp2
    go_meet
    case rel => exact ⟨_, (decide ((l0_2.length : Int) > 30)), (by first | rfl | (simp; done) | (simp [*]; done)), H', ⟨by first | omega | exact Nat.le_refl _⟩, ⟨by (with_reducible repeat (first | refine kD ?_ _ | refine k1_ ?_ | refine kA ?_ _)); exact BK223.out⟩, ⟨by repeat (first | (with_reducible first | exact HB.out | apply bA | apply bD | apply b1 | refine bS ?_ GE223.out) | exact HB.out)⟩⟩
  case rest =>
    clear HC2
    obtain ⟨kq, x22_1, rfl, HA, HJ1, BK223, HB⟩ := hcut
    cases kq with
    | zero => exact absurd HA.out (by simp [stipendlaw10_small.j0])
    | succ kj1 =>
      have H := HA.out
      clear HA
      simp only [stipendlaw10_small.j0] at H
      by_cases c9 : x22_1 = true
      · subst c9
        have H1 : (some false) = some r := by rw [if_pos rfl] at H; exact H
        clear H
        have H := H1
        clear H1
        obtain rfl := Option.some.inj H
        go_wp2
        go_ret
        exact ⟨by first | rfl | (simp [errW_none, errW_some] <;> rfl) | (simp [*, errW_none, errW_some] <;> rfl), by repeat (first | (with_reducible first | exact HB.out | apply bA | apply bD | apply b1 | refine bS ?_ GE223.out) | exact HB.out)⟩
      replace c9 := Bool.eq_false_iff.mpr c9
      subst c9
      have H1 : (stipendlaw10_small.l0 kj1 l0_0 (l0_0.length : Int) 0 l0_0 l0_1 l0_2 a0_3 a0_4) = some r := by rw [if_neg (show ¬ (false = true) by decide)] at H; exact H
      clear H
      have H := H1
      clear H1
      have H' := AM H
      clear H
      obtain ⟨_, _, _, _, _, _, _, _, _, _⟩ := bX5 BK223.out
      go_wp2
      go_loopg [26] kj1 (fun kq v26 w' => ∃ (x26_2 : Int), v26 = .int .i64 x26_2 ∧ Aside0 (stipendlaw10_small.l0 kq l0_0 (l0_0.length : Int) x26_2 l0_0 l0_1 l0_2 a0_3 a0_4 = some r) ∧ Aside0 (kq ≤ kj1) ∧ Aside0 (w'.heap[gb223]? = some (.cells #[(.slice A0_0 l0_0.length c0_0), (.slice A0_1 l0_1.length c0_1), (.slice A0_2 l0_2.length c0_2), .int .i64 a0_3, .int .i64 a0_4] 26 (0, 0))) ∧ Aside0 (Below w.heap.size w w'))
      case atStart => exact ⟨(0), (by first | rfl | (simp; done) | (simp [*]; done)), H', ⟨Nat.le_refl _⟩, ⟨by (with_reducible repeat (first | refine kD ?_ _ | refine k1_ ?_ | refine kA ?_ _)); exact BK223.out⟩, ⟨by repeat (first | (with_reducible first | exact HB.out | apply bA | apply bD | apply b1 | refine bS ?_ GE223.out) | exact HB.out)⟩⟩
      case round =>
        clear H'
        obtain ⟨x26_2, rfl, HA, HK2, BK223, HB⟩ := hrel
        cases gk with
        | zero => exact absurd HA.out (by simp [stipendlaw10_small.l0])
        | succ k2 =>
          have H := HA.out
          clear HA
          simp only [stipendlaw10_small.l0] at H
          by_cases c11 : x26_2 < (l0_0.length : Int)
          · rw [if_pos c11] at H
            have c11b0 := decide_eq_true c11
            clear c11
            by_cases c12 : 0 ≤ x26_2
            rotate_left
            · rw [if_neg c12] at H
              exact absurd H (by simp)
            rw [if_pos c12] at H
            have c12b0 := decide_eq_true c12
            clear c12
            by_cases c13 : x26_2 < (l0_0.length : Int)
            rotate_left
            · rw [if_neg c13] at H
              exact absurd H (by simp)
            rw [if_pos c13] at H
            have c13b0 := decide_eq_true c13
            clear c13
            by_cases c14 : ((rd_L2 l0_0 x26_2).length : Int) > 20
            · rw [if_pos c14] at H
              have c14b0 := decide_eq_true c14
              have c14b1 : decide (20 < (rd_L2 l0_0 x26_2).length) = true := decide_eq_true (by omega)
              clear c14
              obtain rfl := Option.some.inj H
              have p224 : 0 ≤ (x26_2 : Int) := of_decide_eq_true (by first | (with_reducible assumption) | assumption)
              have q224 : x26_2 < (l0_0.length : Int) := of_decide_eq_true (by first | (with_reducible assumption) | assumption)
              obtain ⟨ad224, A224_0, c224_0, e224, hx224_0, hl224_0, hi224_0⟩ := at_L2 HR0_0.out x26_2 p224 q224
              cases e224
              replace hx224_0 := (HB.out.cell (bL w _ hx224_0)).trans hx224_0
              have HR224_0 := AM hi224_0
              have HC224_0 := AM hl224_0
              clear hi224_0 hl224_0
              replace p224 := eq_true p224
              replace q224 := eq_true q224
              go_wp2
              go_ret
              exact ⟨by first | rfl | (simp [errW_none, errW_some] <;> rfl) | (simp [*, errW_none, errW_some] <;> rfl), by repeat (first | (with_reducible first | exact HB.out | apply bA | apply bD | apply b1 | refine bS ?_ GE223.out) | exact HB.out)⟩
            rw [if_neg c14] at H
            have c14b0 := decide_eq_false c14
            have c14b1 : decide (20 < (rd_L2 l0_0 x26_2).length) = false := decide_eq_false (by omega)
            clear c14
            have H' := AM H
            clear H
            have p224 : 0 ≤ (x26_2 : Int) := of_decide_eq_true (by first | (with_reducible assumption) | assumption)
            have q224 : x26_2 < (l0_0.length : Int) := of_decide_eq_true (by first | (with_reducible assumption) | assumption)
            obtain ⟨ad224, A224_0, c224_0, e224, hx224_0, hl224_0, hi224_0⟩ := at_L2 HR0_0.out x26_2 p224 q224
            cases e224
            replace hx224_0 := (HB.out.cell (bL w _ hx224_0)).trans hx224_0
            have HR224_0 := AM hi224_0
            have HC224_0 := AM hl224_0
            clear hi224_0 hl224_0
            replace p224 := eq_true p224
            replace q224 := eq_true q224
            go_wp2
            go_roundg k2
            case measure => have := HJ1.out; have := HK2.out; omega
            case rel => exact ⟨(wrap64 (x26_2 + 1)), (by first | rfl | (simp; done) | (simp [*]; done)), H', ⟨by have := HJ1.out; have := HK2.out; omega⟩, ⟨by (with_reducible repeat (first | refine kD ?_ _ | refine k1_ ?_ | refine kA ?_ _)); exact BK223.out⟩, ⟨by repeat (first | (with_reducible first | exact HB.out | apply bA | apply bD | apply b1 | refine bS ?_ GE223.out) | exact HB.out)⟩⟩
          rw [if_neg c11] at H
          have c11b0 := decide_eq_false c11
          clear c11
          have H' := AM H
          clear H
          obtain ⟨_, _, _, _, _, _, _, _, _, _⟩ := bX5 BK223.out
          go_wp2
          go_loopg [37] k2 (fun kq v37 w' => ∃ (x37_3 : Int), v37 = .int .i64 x37_3 ∧ Aside0 (stipendlaw10_small.l1 kq l0_1 (l0_1.length : Int) x37_3 = some r) ∧ Aside0 (kq ≤ k2) ∧ Aside0 (w'.heap[gb223]? = some (.cells #[(.slice A0_0 l0_0.length c0_0), (.slice A0_1 l0_1.length c0_1), (.slice A0_2 l0_2.length c0_2), .int .i64 a0_3, .int .i64 a0_4] 26 (0, 0))) ∧ Aside0 (Below w.heap.size w w'))
          case atStart => exact ⟨(0), (by first | rfl | (simp; done) | (simp [*]; done)), H', ⟨Nat.le_refl _⟩, ⟨by (with_reducible repeat (first | refine kD ?_ _ | refine k1_ ?_ | refine kA ?_ _)); exact BK223.out⟩, ⟨by repeat (first | (with_reducible first | exact HB.out | apply bA | apply bD | apply b1 | refine bS ?_ GE223.out) | exact HB.out)⟩⟩
          case round =>
            clear H'
            obtain ⟨x37_3, rfl, HA, HK3, BK223, HB⟩ := hrel
            cases gk with
            | zero => exact absurd HA.out (by simp [stipendlaw10_small.l1])
            | succ k3 =>
              have H := HA.out
              clear HA
              simp only [stipendlaw10_small.l1] at H
              by_cases c16 : x37_3 < (l0_1.length : Int)
              rotate_left
              · rw [if_neg c16] at H
                have c16b0 := decide_eq_false c16
                clear c16
                obtain rfl := Option.some.inj H
                go_wp2
                go_ret
                exact ⟨by first | rfl | (simp [errW_none, errW_some] <;> rfl) | (simp [*, errW_none, errW_some] <;> rfl), by repeat (first | (with_reducible first | exact HB.out | apply bA | apply bD | apply b1 | refine bS ?_ GE223.out) | exact HB.out)⟩

              rw [if_pos c16] at H
              have c16b0 := decide_eq_true c16
              clear c16
              by_cases c17 : 0 ≤ x37_3
              rotate_left
              · rw [if_neg c17] at H
                exact absurd H (by simp)
              rw [if_pos c17] at H
              have c17b0 := decide_eq_true c17
              clear c17
              by_cases c18 : x37_3 < (l0_1.length : Int)
              rotate_left
              · rw [if_neg c18] at H
                exact absurd H (by simp)
              rw [if_pos c18] at H
              have c18b0 := decide_eq_true c18
              clear c18
              by_cases c19 : (((rd_T43 l0_1 x37_3).f2).length : Int) > 20
              · rw [if_pos c19] at H
                have c19b0 := decide_eq_true c19
                have c19b1 : decide (20 < ((rd_T43 l0_1 x37_3).f2).length) = true := decide_eq_true (by omega)
                clear c19
                obtain rfl := Option.some.inj H
                have p225 : 0 ≤ (x37_3 : Int) := of_decide_eq_true (by first | (with_reducible assumption) | assumption)
                have q225 : x37_3 < (l0_1.length : Int) := of_decide_eq_true (by first | (with_reducible assumption) | assumption)
                obtain ⟨ad225, A225_2, c225_2, e225, hx225_0, hx225_1, hx225_2, hx225_3, hx225_4, hx225_5, hl225_2, hi225_2⟩ := at_T43 HR0_1.out x37_3 p225 q225
                cases e225
                replace hx225_0 := (HB.out.cell (bL w _ hx225_0)).trans hx225_0
                replace hx225_1 := (HB.out.cell (bL w _ hx225_1)).trans hx225_1
                replace hx225_2 := (HB.out.cell (bL w _ hx225_2)).trans hx225_2
                replace hx225_3 := (HB.out.cell (bL w _ hx225_3)).trans hx225_3
                replace hx225_4 := (HB.out.cell (bL w _ hx225_4)).trans hx225_4
                replace hx225_5 := (HB.out.cell (bL w _ hx225_5)).trans hx225_5
                have HR225_2 := AM hi225_2
                have HC225_2 := AM hl225_2
                clear hi225_2 hl225_2
                replace p225 := eq_true p225
                replace q225 := eq_true q225
                go_wp2_with (first | ((with_reducible refine gD (N := 6) rfl ?_); (try (refine gG (by rfl) ?_; dsimp only)); refine bE ?hg (N := 6) ?hd (cs := #[.string (⟨#[]⟩ : ByteArray), .int .i64 0, .slice none 0 0, .int .i64 0, .int .i64 0, .int .i64 0]) (t := 49) ?hr ?_; (case hd => rfl); (case hg => rfl); (case hr => first | (go_simp; done) | (go_simp; rfl)); intro gb226 hg w20 hbox hb; have n0_ := AM (kB (g := gb223) (o := .cells #[.slice A0_0 l0_0.length c0_0, .slice (some ad225) l0_1.length c0_1, .slice A0_2 l0_2.length c0_2, .int .i64 a0_3, .int .i64 a0_4] 26 (0, 0)) (kW BK223) hb); have n1_ := AM (bT bQ hb); have n2_ := AM (hbox); have n3_ := AM ((by rw [hg]; exact (bZ bQ) : w.heap.size ≤ gb226)); have n4_ := AM ((by rw [hg]; exact (bZ bQ) : w.heap.size ≤ gb226)); have n5_ := AM ((by rw [hg]; exact Nat.ne_of_lt (blk_lt (g := gb223) (o := .cells #[.slice A0_0 l0_0.length c0_0, .slice (some ad225) l0_1.length c0_1, .slice A0_2 l0_2.length c0_2, .int .i64 a0_3, .int .i64 a0_4] 26 (0, 0)) (kW BK223)) : gb223 ≠ gb226)); have n6_ := AM ((by rw [hg]; exact Nat.ne_of_gt (blk_lt (g := gb223) (o := .cells #[.slice A0_0 l0_0.length c0_0, .slice (some ad225) l0_1.length c0_1, .slice A0_2 l0_2.length c0_2, .int .i64 a0_3, .int .i64 a0_4] 26 (0, 0)) (kW BK223)) : gb226 ≠ gb223)); clear BK223; clear HB; have BK223 := n0_; have HB := n1_; have BK226 := n2_; have GW226 := n3_; have GE226 := n4_; have NB223_226 := n5_; have NB226_223 := n6_; clear n0_ n1_ n2_ n3_ n4_ n5_ n6_; clear hb hbox hg; have hnb21 := NB226_223.out; have hnc21 := NB223_226.out; obtain ⟨_, _, _, _, _, _, _, _, _, _, _, _⟩ := bX6 BK226.out))
                go_ret
                exact ⟨by first | rfl | (simp [errW_none, errW_some] <;> rfl) | (simp [*, errW_none, errW_some] <;> rfl), by repeat (first | (with_reducible first | exact HB.out | apply bA | apply bD | apply b1 | refine bS ?_ GE223.out | refine bS ?_ GE226.out) | exact HB.out)⟩
              rw [if_neg c19] at H
              have c19b0 := decide_eq_false c19
              have c19b1 : decide (20 < ((rd_T43 l0_1 x37_3).f2).length) = false := decide_eq_false (by omega)
              clear c19
              by_cases c23 : (((rd_T43 l0_1 x37_3).f0).size : Int) > 60
              · rw [if_pos c23] at H
                have c23b0 := decide_eq_true c23
                have c23b1 : decide (60 < ((rd_T43 l0_1 x37_3).f0).size) = true := decide_eq_true (by omega)
                clear c23
                obtain rfl := Option.some.inj H
                have p225 : 0 ≤ (x37_3 : Int) := of_decide_eq_true (by first | (with_reducible assumption) | assumption)
                have q225 : x37_3 < (l0_1.length : Int) := of_decide_eq_true (by first | (with_reducible assumption) | assumption)
                obtain ⟨ad225, A225_2, c225_2, e225, hx225_0, hx225_1, hx225_2, hx225_3, hx225_4, hx225_5, hl225_2, hi225_2⟩ := at_T43 HR0_1.out x37_3 p225 q225
                cases e225
                replace hx225_0 := (HB.out.cell (bL w _ hx225_0)).trans hx225_0
                replace hx225_1 := (HB.out.cell (bL w _ hx225_1)).trans hx225_1
                replace hx225_2 := (HB.out.cell (bL w _ hx225_2)).trans hx225_2
                replace hx225_3 := (HB.out.cell (bL w _ hx225_3)).trans hx225_3
                replace hx225_4 := (HB.out.cell (bL w _ hx225_4)).trans hx225_4
                replace hx225_5 := (HB.out.cell (bL w _ hx225_5)).trans hx225_5
                have HR225_2 := AM hi225_2
                have HC225_2 := AM hl225_2
                clear hi225_2 hl225_2
                replace p225 := eq_true p225
                replace q225 := eq_true q225
                go_wp2_with (first | ((with_reducible refine gD (N := 6) rfl ?_); (try (refine gG (by rfl) ?_; dsimp only)); refine bE ?hg (N := 6) ?hd (cs := #[.string (⟨#[]⟩ : ByteArray), .int .i64 0, .slice none 0 0, .int .i64 0, .int .i64 0, .int .i64 0]) (t := 49) ?hr ?_; (case hd => rfl); (case hg => rfl); (case hr => first | (go_simp; done) | (go_simp; rfl)); intro gb226 hg w24 hbox hb; have n0_ := AM (kB (g := gb223) (o := .cells #[.slice A0_0 l0_0.length c0_0, .slice (some ad225) l0_1.length c0_1, .slice A0_2 l0_2.length c0_2, .int .i64 a0_3, .int .i64 a0_4] 26 (0, 0)) (kW BK223) hb); have n1_ := AM (bT bQ hb); have n2_ := AM (hbox); have n3_ := AM ((by rw [hg]; exact (bZ bQ) : w.heap.size ≤ gb226)); have n4_ := AM ((by rw [hg]; exact (bZ bQ) : w.heap.size ≤ gb226)); have n5_ := AM ((by rw [hg]; exact Nat.ne_of_lt (blk_lt (g := gb223) (o := .cells #[.slice A0_0 l0_0.length c0_0, .slice (some ad225) l0_1.length c0_1, .slice A0_2 l0_2.length c0_2, .int .i64 a0_3, .int .i64 a0_4] 26 (0, 0)) (kW BK223)) : gb223 ≠ gb226)); have n6_ := AM ((by rw [hg]; exact Nat.ne_of_gt (blk_lt (g := gb223) (o := .cells #[.slice A0_0 l0_0.length c0_0, .slice (some ad225) l0_1.length c0_1, .slice A0_2 l0_2.length c0_2, .int .i64 a0_3, .int .i64 a0_4] 26 (0, 0)) (kW BK223)) : gb226 ≠ gb223)); clear BK223; clear HB; have BK223 := n0_; have HB := n1_; have BK226 := n2_; have GW226 := n3_; have GE226 := n4_; have NB223_226 := n5_; have NB226_223 := n6_; clear n0_ n1_ n2_ n3_ n4_ n5_ n6_; clear hb hbox hg; have hnb25 := NB226_223.out; have hnc25 := NB223_226.out; obtain ⟨_, _, _, _, _, _, _, _, _, _, _, _⟩ := bX6 BK226.out))
                go_ret
                exact ⟨by first | rfl | (simp [errW_none, errW_some] <;> rfl) | (simp [*, errW_none, errW_some] <;> rfl), by repeat (first | (with_reducible first | exact HB.out | apply bA | apply bD | apply b1 | refine bS ?_ GE223.out | refine bS ?_ GE226.out) | exact HB.out)⟩
              rw [if_neg c23] at H
              have c23b0 := decide_eq_false c23
              have c23b1 : decide (60 < ((rd_T43 l0_1 x37_3).f0).size) = false := decide_eq_false (by omega)
              clear c23
              have H' := AM H
              clear H
              have p225 : 0 ≤ (x37_3 : Int) := of_decide_eq_true (by first | (with_reducible assumption) | assumption)
              have q225 : x37_3 < (l0_1.length : Int) := of_decide_eq_true (by first | (with_reducible assumption) | assumption)
              obtain ⟨ad225, A225_2, c225_2, e225, hx225_0, hx225_1, hx225_2, hx225_3, hx225_4, hx225_5, hl225_2, hi225_2⟩ := at_T43 HR0_1.out x37_3 p225 q225
              cases e225
              replace hx225_0 := (HB.out.cell (bL w _ hx225_0)).trans hx225_0
              replace hx225_1 := (HB.out.cell (bL w _ hx225_1)).trans hx225_1
              replace hx225_2 := (HB.out.cell (bL w _ hx225_2)).trans hx225_2
              replace hx225_3 := (HB.out.cell (bL w _ hx225_3)).trans hx225_3
              replace hx225_4 := (HB.out.cell (bL w _ hx225_4)).trans hx225_4
              replace hx225_5 := (HB.out.cell (bL w _ hx225_5)).trans hx225_5
              have HR225_2 := AM hi225_2
              have HC225_2 := AM hl225_2
              clear hi225_2 hl225_2
              replace p225 := eq_true p225
              replace q225 := eq_true q225
              go_wp2_with (first | ((with_reducible refine gD (N := 6) rfl ?_); (try (refine gG (by rfl) ?_; dsimp only)); refine bE ?hg (N := 6) ?hd (cs := #[.string (⟨#[]⟩ : ByteArray), .int .i64 0, .slice none 0 0, .int .i64 0, .int .i64 0, .int .i64 0]) (t := 49) ?hr ?_; (case hd => rfl); (case hg => rfl); (case hr => first | (go_simp; done) | (go_simp; rfl)); intro gb226 hg w27 hbox hb; have n0_ := AM (kB (g := gb223) (o := .cells #[.slice A0_0 l0_0.length c0_0, .slice (some ad225) l0_1.length c0_1, .slice A0_2 l0_2.length c0_2, .int .i64 a0_3, .int .i64 a0_4] 26 (0, 0)) (kW BK223) hb); have n1_ := AM (bT bQ hb); have n2_ := AM (hbox); have n3_ := AM ((by rw [hg]; exact (bZ bQ) : w.heap.size ≤ gb226)); have n4_ := AM ((by rw [hg]; exact (bZ bQ) : w.heap.size ≤ gb226)); have n5_ := AM ((by rw [hg]; exact Nat.ne_of_lt (blk_lt (g := gb223) (o := .cells #[.slice A0_0 l0_0.length c0_0, .slice (some ad225) l0_1.length c0_1, .slice A0_2 l0_2.length c0_2, .int .i64 a0_3, .int .i64 a0_4] 26 (0, 0)) (kW BK223)) : gb223 ≠ gb226)); have n6_ := AM ((by rw [hg]; exact Nat.ne_of_gt (blk_lt (g := gb223) (o := .cells #[.slice A0_0 l0_0.length c0_0, .slice (some ad225) l0_1.length c0_1, .slice A0_2 l0_2.length c0_2, .int .i64 a0_3, .int .i64 a0_4] 26 (0, 0)) (kW BK223)) : gb226 ≠ gb223)); clear BK223; clear HB; have BK223 := n0_; have HB := n1_; have BK226 := n2_; have GW226 := n3_; have GE226 := n4_; have NB223_226 := n5_; have NB226_223 := n6_; clear n0_ n1_ n2_ n3_ n4_ n5_ n6_; clear hb hbox hg; have hnb28 := NB226_223.out; have hnc28 := NB223_226.out; obtain ⟨_, _, _, _, _, _, _, _, _, _, _, _⟩ := bX6 BK226.out))
              go_roundg k3
              case measure => have := HJ1.out; have := HK2.out; have := HK3.out; omega
              case rel => exact ⟨(wrap64 (x37_3 + 1)), (by first | rfl | (simp; done) | (simp [*]; done)), H', ⟨by have := HJ1.out; have := HK2.out; have := HK3.out; omega⟩, ⟨by (with_reducible repeat (first | refine kD ?_ _ | refine k1_ ?_ | refine kA ?_ _)); refine kF ?_ NB223_226.out _; (with_reducible repeat (first | refine kD ?_ _ | refine k1_ ?_ | refine kA ?_ _)); refine kF ?_ NB223_226.out _; (with_reducible repeat (first | refine kD ?_ _ | refine k1_ ?_ | refine kA ?_ _)); refine kF ?_ NB223_226.out _; (with_reducible repeat (first | refine kD ?_ _ | refine k1_ ?_ | refine kA ?_ _)); refine kF ?_ NB223_226.out _; (with_reducible repeat (first | refine kD ?_ _ | refine k1_ ?_ | refine kA ?_ _)); refine kF ?_ NB223_226.out _; (with_reducible repeat (first | refine kD ?_ _ | refine k1_ ?_ | refine kA ?_ _)); refine kF ?_ NB223_226.out _; (with_reducible repeat (first | refine kD ?_ _ | refine k1_ ?_ | refine kA ?_ _)); exact BK223.out⟩, ⟨by repeat (first | (with_reducible first | exact HB.out | apply bA | apply bD | apply b1 | refine bS ?_ GE223.out | refine bS ?_ GE226.out) | exact HB.out)⟩⟩

end Go.Proofs.YtdllkibfikcfbaaDoor.K
