import Derived.Test.YtdllkibfikcfbaaDoorKx0
import Derived.Test.YtdllkibfikcfbaaDoorKPatch
import Derived.Test.YtdllkibfikcfbaaDoorWEqStruct
namespace Go.Proofs.YtdllkibfikcfbaaDoor.K
open Go.RowKit Go.Proofs.YtdllkibfikcfbaaDoorW.PrintWords Go.Proofs.YtdllkibfikcfbaaDoorW.PrintLast Go.Proofs.YtdllkibfikcfbaaDoorW.PrintMore
attribute [local go_sem] max2_int min2_int max_two min_two max_three min_three max_four min_four   -- for this text's walks alone
set_option linter.unusedVariables false
set_option linter.unusedSimpArgs false

theorem eqA52 (d : Nat) (w : World) (x0 y0 : Int) (x1 y1 : Int) (x2 y2 : Int) :
    (Op.equalIn (d + 2) 52 (.agg #[.int .i64 x0, .int .i64 x1, .int .i64 x2]) (.agg #[.int .i64 y0, .int .i64 y1, .int .i64 y2])).run Tryd.prog w = .ok (x0 == y0 && (x1 == y1 && (x2 == y2))) w := by
  refine eqA_of Tryd.underlying52 (by kernel_rfl) ?_
  refine eqf_cons (by rfl) (by go_simp; rfl) (by go_simp; rfl) (by go_simp) ?_
  refine eqf_cons (by rfl) (by go_simp; rfl) (by go_simp; rfl) (by go_simp) ?_
  exact eqf_last (by rfl) (by go_simp; rfl) (by go_simp; rfl) (by go_simp)
theorem eqA61 (d : Nat) (w : World) (x0 y0 : ByteArray) (x1 y1 : Int) (x2 y2 : Int) (x3 y3 : Int) :
    (Op.equalIn (d + 2) 61 (.agg #[.string x0, .int .i64 x1, .int .i64 x2, .int .i64 x3]) (.agg #[.string y0, .int .i64 y1, .int .i64 y2, .int .i64 y3])).run Tryd.prog w = .ok (x0.toList == y0.toList && (x1 == y1 && (x2 == y2 && (x3 == y3)))) w := by
  refine eqA_of Tryd.underlying61 (by kernel_rfl) ?_
  refine eqf_cons (by rfl) (by go_simp; rfl) (by go_simp; rfl) (by go_simp) ?_
  refine eqf_cons (by rfl) (by go_simp; rfl) (by go_simp; rfl) (by go_simp) ?_
  refine eqf_cons (by rfl) (by go_simp; rfl) (by go_simp; rfl) (by go_simp) ?_
  exact eqf_last (by rfl) (by go_simp; rfl) (by go_simp; rfl) (by go_simp)
attribute [local go_sem high] eqA52 eqA61

/-! ### eqKinds: function 32 -/
def eqKinds.l0 : Nat → List (S58) → List (S58) → Int → Int → Option (Bool)
  | 0, _, _, _, _ => none
  | k + 1, x0, x1, x12, x13 => if x13 < x12 then (if 0 ≤ x13 then (if x13 < (x0.length : Int) then (if x13 < (x1.length : Int) then (if (!((((rd_T58 x0 x13).f0).toList) == (((rd_T58 x1 x13).f0).toList)) || (!(((rd_T58 x0 x13).f1) == ((rd_T58 x1 x13).f1)) || (!(((rd_T58 x0 x13).f2) == ((rd_T58 x1 x13).f2)) || (!(((rd_T58 x0 x13).f3) == ((rd_T58 x1 x13).f3)))))) = true then (some false) else (eqKinds.l0 k x0 x1 x12 (wrap64 (x13 + 1)))) else (none)) else (none)) else (none)) else (some true)
def eqKinds.f (k : Nat) (l0 : List (S58)) (l1 : List (S58)) : Option (Bool) := if (l0.length : Int) = (l1.length : Int) then (eqKinds.l0 k l0 l1 (l0.length : Int) 0) else (some false)
set_option maxHeartbeats 8000000 in
set_option maxRecDepth 100000 in
theorem eqKinds.calls (k : Nat) (A0 : Option Addr) (c0 : Nat) (l0 : List (S58)) (A1 : Option Addr) (c1 : Nat) (l1 : List (S58)) (r : Bool) (w : World) (hr0 : Kd.C k58 w A0 l0.length l0) (hc0 : l0.length ≤ c0) (hr1 : Kd.C k58 w A1 l1.length l1) (hc1 : l1.length ≤ c1) (hrt : r = true) (h : eqKinds.f k l0 l1 = some r) :
    Calls Tryd.prog 32 #[.slice A0 l0.length c0, .slice A1 l1.length c1] w fun e w' => e = .returned (.bool r) ∧ Drawn0 w w' := by
  have HRT := AM hrt
  clear hrt
  have hu61 := Tryd.underlying61
  have HR0 := AM hr0
  have HC0 := AM hc0
  clear hr0 hc0
  have HR1 := AM hr1
  have HC1 := AM hc1
  clear hr1 hc1
  have H : (if (l0.length : Int) = (l1.length : Int) then (eqKinds.l0 k l0 l1 (l0.length : Int) 0) else (some false)) = some r := h
  clear h
  by_cases c3 : (l0.length : Int) = (l1.length : Int)
  rotate_left
  · rw [if_neg c3] at H
    have c3b0 : ((l0.length : Int) == (l1.length : Int)) = false := beq_eq_false_iff_ne.mpr c3
    have c3b1 : ((l0.length : Int) != (l1.length : Int)) = true := bne_iff_ne.mpr c3
    have c3b2 : (l0.length == l1.length) = false := by first | simpa using c3 | (simp at c3 ⊢; omega)
    exact absurd (Option.some.inj H) (by rw [HRT.out]; decide)


  rw [if_pos c3] at H
  have c3b0 : ((l0.length : Int) == (l1.length : Int)) = true := beq_iff_eq.mpr c3
  have c3b1 : ((l0.length : Int) != (l1.length : Int)) = false := bne_eq_false_iff_eq.mpr c3
  have c3b2 : (l0.length == l1.length) = true := by first | simpa using c3 | (simp at c3 ⊢; omega)
  clear c3
  have H' := AM H
  clear H
  go_enter Tryd.func32, Tryd.ntmps32
  go_wp2
  repeat (go_quiet (fail); try go_wp2)
  go_loopg [13] k (fun kq v13 w' => ∃ (x13_1 : Int), v13 = .int .i64 x13_1 ∧ Aside0 (eqKinds.l0 kq l0 l1 (l0.length : Int) x13_1 = some r) ∧ Aside0 (kq ≤ k) ∧ Drawn0 w w')
  case atStart => exact ⟨(0), (by first | rfl | (simp; done) | (simp [*]; done)), H', ⟨Nat.le_refl _⟩, by repeat (first | exact Drawn0.refl _ | apply Drawn0.step)⟩
  case round =>
    clear H'
    (try clear c1); (try clear p2); (try clear c3); (try clear c3b0); (try clear c3b1); (try clear c3b2)
    obtain ⟨x13_1, rfl, HA, HK1, ⟨m1, rfl⟩⟩ := hrel
    cases gk with
    | zero => exact absurd HA.out (by simp [eqKinds.l0])
    | succ k1 =>
      have H := HA.out
      clear HA
      simp only [eqKinds.l0] at H
      by_cases c4 : x13_1 < (l0.length : Int)
      rotate_left
      · rw [if_neg c4] at H
        have c4b0 := decide_eq_false c4
        clear c4
        obtain rfl := Option.some.inj H
        go_wp2
        repeat (go_quiet (fail); try go_wp2)
        go_ret
        exact ⟨by first | rfl | (simp; done) | (simp [*]; done), by repeat (first | exact Drawn0.refl _ | apply Drawn0.step)⟩
      rw [if_pos c4] at H
      have c4b0 := decide_eq_true c4
      clear c4
      by_cases c5 : 0 ≤ x13_1
      rotate_left
      · rw [if_neg c5] at H
        exact absurd H (by simp)
      rw [if_pos c5] at H
      have c5b0 := decide_eq_true c5
      clear c5
      by_cases c6 : x13_1 < (l0.length : Int)
      rotate_left
      · rw [if_neg c6] at H
        exact absurd H (by simp)
      rw [if_pos c6] at H
      have c6b0 := decide_eq_true c6
      clear c6
      by_cases c7 : x13_1 < (l1.length : Int)
      rotate_left
      · rw [if_neg c7] at H
        exact absurd H (by simp)
      rw [if_pos c7] at H
      have c7b0 := decide_eq_true c7
      clear c7
      by_cases c8 : (!((((rd_T58 l0 x13_1).f0).toList) == (((rd_T58 l1 x13_1).f0).toList)) || (!(((rd_T58 l0 x13_1).f1) == ((rd_T58 l1 x13_1).f1)) || (!(((rd_T58 l0 x13_1).f2) == ((rd_T58 l1 x13_1).f2)) || (!(((rd_T58 l0 x13_1).f3) == ((rd_T58 l1 x13_1).f3)))))) = true
      · rw [if_pos c8] at H
        have c8b0 : (!((((rd_T58 l0 x13_1).f0).toList) == (((rd_T58 l1 x13_1).f0).toList)) || (!(((rd_T58 l0 x13_1).f1) == ((rd_T58 l1 x13_1).f1)) || (!(((rd_T58 l0 x13_1).f2) == ((rd_T58 l1 x13_1).f2)) || (!(((rd_T58 l0 x13_1).f3) == ((rd_T58 l1 x13_1).f3)))))) = true := c8
        clear c8
        exact absurd (Option.some.inj H) (by rw [HRT.out]; decide)
      rw [if_neg c8] at H
      have c8b0 : (!((((rd_T58 l0 x13_1).f0).toList) == (((rd_T58 l1 x13_1).f0).toList)) || (!(((rd_T58 l0 x13_1).f1) == ((rd_T58 l1 x13_1).f1)) || (!(((rd_T58 l0 x13_1).f2) == ((rd_T58 l1 x13_1).f2)) || (!(((rd_T58 l0 x13_1).f3) == ((rd_T58 l1 x13_1).f3)))))) = false := by simpa using c8
      clear c8
      have H' := AM H
      clear H
      have p346 : 0 ≤ (x13_1 : Int) := of_decide_eq_true (by first | (with_reducible assumption) | assumption)
      have q346 : x13_1 < (l0.length : Int) := of_decide_eq_true (by first | (with_reducible assumption) | assumption)
      obtain ⟨ad346, e346, hx346_0, hx346_1, hx346_2, hx346_3⟩ := at_T58 HR0.out x13_1 p346 q346
      cases e346
      replace p346 := eq_true p346
      replace q346 := eq_true q346
      have p347 : 0 ≤ (x13_1 : Int) := of_decide_eq_true (by first | (with_reducible assumption) | assumption)
      have q347 : x13_1 < (l1.length : Int) := of_decide_eq_true (by first | (with_reducible assumption) | assumption)
      obtain ⟨ad347, e347, hx347_0, hx347_1, hx347_2, hx347_3⟩ := at_T58 HR1.out x13_1 p347 q347
      cases e347
      replace p347 := eq_true p347
      replace q347 := eq_true q347
      go_wp2
      repeat (go_quiet (fail); try go_wp2)
      go_roundg k1
      case measure => have := HK1.out; omega
      case rel => exact ⟨(wrap64 (x13_1 + 1)), (by first | rfl | (simp; done) | (simp [*]; done)), H', ⟨by have := HK1.out; omega⟩, by repeat (first | exact Drawn0.refl _ | apply Drawn0.step)⟩
/-! ### eqBands: function 31 -/
def eqBands.l0 : Nat → List (S41) → List (S41) → Int → Int → Option (Bool)
  | 0, _, _, _, _ => none
  | k + 1, x0, x1, x12, x13 => if x13 < x12 then (if 0 ≤ x13 then (if x13 < (x0.length : Int) then (if x13 < (x1.length : Int) then (if (!(((rd_T41 x0 x13).f0) == ((rd_T41 x1 x13).f0)) || (!(((rd_T41 x0 x13).f1) == ((rd_T41 x1 x13).f1)) || (!(((rd_T41 x0 x13).f2) == ((rd_T41 x1 x13).f2))))) = true then (some false) else (eqBands.l0 k x0 x1 x12 (wrap64 (x13 + 1)))) else (none)) else (none)) else (none)) else (some true)
def eqBands.f (k : Nat) (l0 : List (S41)) (l1 : List (S41)) : Option (Bool) := if (l0.length : Int) = (l1.length : Int) then (eqBands.l0 k l0 l1 (l0.length : Int) 0) else (some false)
set_option maxHeartbeats 8000000 in
set_option maxRecDepth 100000 in
theorem eqBands.calls (k : Nat) (A0 : Option Addr) (c0 : Nat) (l0 : List (S41)) (A1 : Option Addr) (c1 : Nat) (l1 : List (S41)) (r : Bool) (w : World) (hr0 : Kd.C k41 w A0 l0.length l0) (hc0 : l0.length ≤ c0) (hr1 : Kd.C k41 w A1 l1.length l1) (hc1 : l1.length ≤ c1) (hrt : r = true) (h : eqBands.f k l0 l1 = some r) :
    Calls Tryd.prog 31 #[.slice A0 l0.length c0, .slice A1 l1.length c1] w fun e w' => e = .returned (.bool r) ∧ Drawn0 w w' := by
  have HRT := AM hrt
  clear hrt
  have hu52 := Tryd.underlying52
  have HR0 := AM hr0
  have HC0 := AM hc0
  clear hr0 hc0
  have HR1 := AM hr1
  have HC1 := AM hc1
  clear hr1 hc1
  have H : (if (l0.length : Int) = (l1.length : Int) then (eqBands.l0 k l0 l1 (l0.length : Int) 0) else (some false)) = some r := h
  clear h
  by_cases c3 : (l0.length : Int) = (l1.length : Int)
  rotate_left
  · rw [if_neg c3] at H
    have c3b0 : ((l0.length : Int) == (l1.length : Int)) = false := beq_eq_false_iff_ne.mpr c3
    have c3b1 : ((l0.length : Int) != (l1.length : Int)) = true := bne_iff_ne.mpr c3
    have c3b2 : (l0.length == l1.length) = false := by first | simpa using c3 | (simp at c3 ⊢; omega)
    exact absurd (Option.some.inj H) (by rw [HRT.out]; decide)


  rw [if_pos c3] at H
  have c3b0 : ((l0.length : Int) == (l1.length : Int)) = true := beq_iff_eq.mpr c3
  have c3b1 : ((l0.length : Int) != (l1.length : Int)) = false := bne_eq_false_iff_eq.mpr c3
  have c3b2 : (l0.length == l1.length) = true := by first | simpa using c3 | (simp at c3 ⊢; omega)
  clear c3
  have H' := AM H
  clear H
  go_enter Tryd.func31, Tryd.ntmps31
  go_wp2
  repeat (go_quiet (fail); try go_wp2)
  go_loopg [13] k (fun kq v13 w' => ∃ (x13_1 : Int), v13 = .int .i64 x13_1 ∧ Aside0 (eqBands.l0 kq l0 l1 (l0.length : Int) x13_1 = some r) ∧ Aside0 (kq ≤ k) ∧ Drawn0 w w')
  case atStart => exact ⟨(0), (by first | rfl | (simp; done) | (simp [*]; done)), H', ⟨Nat.le_refl _⟩, by repeat (first | exact Drawn0.refl _ | apply Drawn0.step)⟩
  case round =>
    clear H'
    (try clear c1); (try clear p2); (try clear c3); (try clear c3b0); (try clear c3b1); (try clear c3b2)
    obtain ⟨x13_1, rfl, HA, HK1, ⟨m1, rfl⟩⟩ := hrel
    cases gk with
    | zero => exact absurd HA.out (by simp [eqBands.l0])
    | succ k1 =>
      have H := HA.out
      clear HA
      simp only [eqBands.l0] at H
      by_cases c4 : x13_1 < (l0.length : Int)
      rotate_left
      · rw [if_neg c4] at H
        have c4b0 := decide_eq_false c4
        clear c4
        obtain rfl := Option.some.inj H
        go_wp2
        repeat (go_quiet (fail); try go_wp2)
        go_ret
        exact ⟨by first | rfl | (simp; done) | (simp [*]; done), by repeat (first | exact Drawn0.refl _ | apply Drawn0.step)⟩
      rw [if_pos c4] at H
      have c4b0 := decide_eq_true c4
      clear c4
      by_cases c5 : 0 ≤ x13_1
      rotate_left
      · rw [if_neg c5] at H
        exact absurd H (by simp)
      rw [if_pos c5] at H
      have c5b0 := decide_eq_true c5
      clear c5
      by_cases c6 : x13_1 < (l0.length : Int)
      rotate_left
      · rw [if_neg c6] at H
        exact absurd H (by simp)
      rw [if_pos c6] at H
      have c6b0 := decide_eq_true c6
      clear c6
      by_cases c7 : x13_1 < (l1.length : Int)
      rotate_left
      · rw [if_neg c7] at H
        exact absurd H (by simp)
      rw [if_pos c7] at H
      have c7b0 := decide_eq_true c7
      clear c7
      by_cases c8 : (!(((rd_T41 l0 x13_1).f0) == ((rd_T41 l1 x13_1).f0)) || (!(((rd_T41 l0 x13_1).f1) == ((rd_T41 l1 x13_1).f1)) || (!(((rd_T41 l0 x13_1).f2) == ((rd_T41 l1 x13_1).f2))))) = true
      · rw [if_pos c8] at H
        have c8b0 : (!(((rd_T41 l0 x13_1).f0) == ((rd_T41 l1 x13_1).f0)) || (!(((rd_T41 l0 x13_1).f1) == ((rd_T41 l1 x13_1).f1)) || (!(((rd_T41 l0 x13_1).f2) == ((rd_T41 l1 x13_1).f2))))) = true := c8
        clear c8
        exact absurd (Option.some.inj H) (by rw [HRT.out]; decide)
      rw [if_neg c8] at H
      have c8b0 : (!(((rd_T41 l0 x13_1).f0) == ((rd_T41 l1 x13_1).f0)) || (!(((rd_T41 l0 x13_1).f1) == ((rd_T41 l1 x13_1).f1)) || (!(((rd_T41 l0 x13_1).f2) == ((rd_T41 l1 x13_1).f2))))) = false := by simpa using c8
      clear c8
      have H' := AM H
      clear H
      have p348 : 0 ≤ (x13_1 : Int) := of_decide_eq_true (by first | (with_reducible assumption) | assumption)
      have q348 : x13_1 < (l0.length : Int) := of_decide_eq_true (by first | (with_reducible assumption) | assumption)
      obtain ⟨ad348, e348, hx348_0, hx348_1, hx348_2⟩ := at_T41 HR0.out x13_1 p348 q348
      cases e348
      replace p348 := eq_true p348
      replace q348 := eq_true q348
      have p349 : 0 ≤ (x13_1 : Int) := of_decide_eq_true (by first | (with_reducible assumption) | assumption)
      have q349 : x13_1 < (l1.length : Int) := of_decide_eq_true (by first | (with_reducible assumption) | assumption)
      obtain ⟨ad349, e349, hx349_0, hx349_1, hx349_2⟩ := at_T41 HR1.out x13_1 p349 q349
      cases e349
      replace p349 := eq_true p349
      replace q349 := eq_true q349
      go_wp2
      repeat (go_quiet (fail); try go_wp2)
      go_roundg k1
      case measure => have := HK1.out; omega
      case rel => exact ⟨(wrap64 (x13_1 + 1)), (by first | rfl | (simp; done) | (simp [*]; done)), H', ⟨by have := HK1.out; omega⟩, by repeat (first | exact Drawn0.refl _ | apply Drawn0.step)⟩
/-! ### table_Same_1: function 30 -/
def table_Same_1.f (k : Nat) (a0_0 : ByteArray) (a0_1 : Int) (l0_2 : List (S41)) (a0_3 : Int) (a0_4 : Int) (a0_5 : Int) (a1_0 : ByteArray) (a1_1 : Int) (l1_2 : List (S41)) (a1_3 : Int) (a1_4 : Int) (a1_5 : Int) : Option (Bool) := if a0_0.toList = a1_0.toList then (if a0_1 = a1_1 then (if a0_3 = a1_3 then (if a0_4 = a1_4 then (if a0_5 = a1_5 then ((eqBands.f k l0_2 l1_2).bind fun t352 => (some t352)) else (some false)) else (some false)) else (some false)) else (some false)) else (some false)
set_option maxHeartbeats 8000000 in
set_option maxRecDepth 100000 in
theorem table_Same_1.calls (k : Nat) (a0_0 : ByteArray) (a0_1 : Int) (A0_2 : Option Addr) (c0_2 : Nat) (l0_2 : List (S41)) (a0_3 : Int) (a0_4 : Int) (a0_5 : Int) (a1_0 : ByteArray) (a1_1 : Int) (A1_2 : Option Addr) (c1_2 : Nat) (l1_2 : List (S41)) (a1_3 : Int) (a1_4 : Int) (a1_5 : Int) (r : Bool) (w : World) (hr0_2 : Kd.C k41 w A0_2 l0_2.length l0_2) (hc0_2 : l0_2.length ≤ c0_2) (hr1_2 : Kd.C k41 w A1_2 l1_2.length l1_2) (hc1_2 : l1_2.length ≤ c1_2) (hrt : r = true) (h : table_Same_1.f k a0_0 a0_1 l0_2 a0_3 a0_4 a0_5 a1_0 a1_1 l1_2 a1_3 a1_4 a1_5 = some r) :
    Calls Tryd.prog 30 #[.agg #[.string a0_0, .int .i64 a0_1, .slice A0_2 l0_2.length c0_2, .int .i64 a0_3, .int .i64 a0_4, .int .i64 a0_5], .agg #[.string a1_0, .int .i64 a1_1, .slice A1_2 l1_2.length c1_2, .int .i64 a1_3, .int .i64 a1_4, .int .i64 a1_5]] w fun e w' => e = .returned (.bool r) ∧ Below w.heap.size w w' := by
  have HRT := AM hrt
  clear hrt
  have hu49 := Tryd.underlying49
  have HR0_2 := AM hr0_2
  have HC0_2 := AM hc0_2
  clear hr0_2 hc0_2
  have HR1_2 := AM hr1_2
  have HC1_2 := AM hc1_2
  clear hr1_2 hc1_2
  have HB := AM (Below.refl w.heap.size w)
  have H : (if a0_0.toList = a1_0.toList then (if a0_1 = a1_1 then (if a0_3 = a1_3 then (if a0_4 = a1_4 then (if a0_5 = a1_5 then ((eqBands.f k l0_2 l1_2).bind fun t352 => (some t352)) else (some false)) else (some false)) else (some false)) else (some false)) else (some false)) = some r := h
  clear h
  by_cases c3 : a0_0.toList = a1_0.toList
  rotate_left
  · rw [if_neg c3] at H
    have c3b0 : (a0_0.toList == a1_0.toList) = false := beq_eq_false_iff_ne.mpr c3
    have c3b1 : (a0_0.toList != a1_0.toList) = true := bne_iff_ne.mpr c3
    exact absurd (Option.some.inj H) (by rw [HRT.out]; decide)


  rw [if_pos c3] at H
  have c3b0 : (a0_0.toList == a1_0.toList) = true := beq_iff_eq.mpr c3
  have c3b1 : (a0_0.toList != a1_0.toList) = false := bne_eq_false_iff_eq.mpr c3
  clear c3
  by_cases c4 : a0_1 = a1_1
  rotate_left
  · rw [if_neg c4] at H
    have c4b0 : (a0_1 == a1_1) = false := beq_eq_false_iff_ne.mpr c4
    have c4b1 : (a0_1 != a1_1) = true := bne_iff_ne.mpr c4
    exact absurd (Option.some.inj H) (by rw [HRT.out]; decide)
  rw [if_pos c4] at H
  have c4b0 : (a0_1 == a1_1) = true := beq_iff_eq.mpr c4
  have c4b1 : (a0_1 != a1_1) = false := bne_eq_false_iff_eq.mpr c4
  clear c4
  by_cases c5 : a0_3 = a1_3
  rotate_left
  · rw [if_neg c5] at H
    have c5b0 : (a0_3 == a1_3) = false := beq_eq_false_iff_ne.mpr c5
    have c5b1 : (a0_3 != a1_3) = true := bne_iff_ne.mpr c5
    exact absurd (Option.some.inj H) (by rw [HRT.out]; decide)
  rw [if_pos c5] at H
  have c5b0 : (a0_3 == a1_3) = true := beq_iff_eq.mpr c5
  have c5b1 : (a0_3 != a1_3) = false := bne_eq_false_iff_eq.mpr c5
  clear c5
  by_cases c6 : a0_4 = a1_4
  rotate_left
  · rw [if_neg c6] at H
    have c6b0 : (a0_4 == a1_4) = false := beq_eq_false_iff_ne.mpr c6
    have c6b1 : (a0_4 != a1_4) = true := bne_iff_ne.mpr c6
    exact absurd (Option.some.inj H) (by rw [HRT.out]; decide)
  rw [if_pos c6] at H
  have c6b0 : (a0_4 == a1_4) = true := beq_iff_eq.mpr c6
  have c6b1 : (a0_4 != a1_4) = false := bne_eq_false_iff_eq.mpr c6
  clear c6
  by_cases c7 : a0_5 = a1_5
  rotate_left
  · rw [if_neg c7] at H
    have c7b0 : (a0_5 == a1_5) = false := beq_eq_false_iff_ne.mpr c7
    have c7b1 : (a0_5 != a1_5) = true := bne_iff_ne.mpr c7
    exact absurd (Option.some.inj H) (by rw [HRT.out]; decide)
  rw [if_pos c7] at H
  have c7b0 : (a0_5 == a1_5) = true := beq_iff_eq.mpr c7
  have c7b1 : (a0_5 != a1_5) = false := bne_eq_false_iff_eq.mpr c7
  clear c7
  replace H := Option.bind_eq_some_iff.mp H
  obtain ⟨t352, A80, H⟩ := H
  replace H : (some t352) = some r := H
  have A8 := AM A80
  clear A80
  obtain rfl := Option.some.inj H
  go_enter Tryd.func30, Tryd.ntmps30
  go_wp2_with (first | ((with_reducible refine gD (N := 2) rfl ?_); refine bE ?hg (N := 2) ?hd (cs := #[.string a0_0, .int .i64 a0_1, .slice A0_2 l0_2.length c0_2, .int .i64 a0_3, .int .i64 a0_4, .int .i64 a0_5]) (t := 49) ?hr ?_; (case hd => rfl); (case hg => rfl); (case hr => first | (go_simp; done) | (go_simp; rfl)); intro gb350 hg w9 hbox hb; have n0_ := AM (bT bQ hb); have n1_ := AM (hbox); have n2_ := AM ((by rw [hg]; exact (bZ bQ) : w.heap.size ≤ gb350)); have n3_ := AM ((by rw [hg]; exact (bZ bQ) : w.heap.size ≤ gb350)); clear HB; have HB := n0_; have BK350 := n1_; have GW350 := n2_; have GE350 := n3_; clear n0_ n1_ n2_ n3_; clear hb hbox hg) | ((with_reducible refine gD (N := 3) rfl ?_); refine bE ?hg (N := 3) ?hd (cs := #[.string a1_0, .int .i64 a1_1, .slice A1_2 l1_2.length c1_2, .int .i64 a1_3, .int .i64 a1_4, .int .i64 a1_5]) (t := 49) ?hr ?_; (case hd => rfl); (case hg => rfl); (case hr => first | (go_simp; done) | (go_simp; rfl)); intro gb351 hg w10 hbox hb; have n0_ := AM (kB (g := gb350) (o := .cells #[.string a0_0, .int .i64 a0_1, .slice A0_2 l0_2.length c0_2, .int .i64 a0_3, .int .i64 a0_4, .int .i64 a0_5] 49 (0, 0)) (kW BK350) hb); have n1_ := AM (bT bQ hb); have n2_ := AM (hbox); have n3_ := AM ((by rw [hg]; exact (bZ bQ) : w.heap.size ≤ gb351)); have n4_ := AM ((by rw [hg]; exact (bZ bQ) : w.heap.size ≤ gb351)); have n5_ := AM ((by rw [hg]; exact Nat.ne_of_lt (blk_lt (g := gb350) (o := .cells #[.string a0_0, .int .i64 a0_1, .slice A0_2 l0_2.length c0_2, .int .i64 a0_3, .int .i64 a0_4, .int .i64 a0_5] 49 (0, 0)) (kW BK350)) : gb350 ≠ gb351)); have n6_ := AM ((by rw [hg]; exact Nat.ne_of_gt (blk_lt (g := gb350) (o := .cells #[.string a0_0, .int .i64 a0_1, .slice A0_2 l0_2.length c0_2, .int .i64 a0_3, .int .i64 a0_4, .int .i64 a0_5] 49 (0, 0)) (kW BK350)) : gb351 ≠ gb350)); clear BK350; clear HB; have BK350 := n0_; have HB := n1_; have BK351 := n2_; have GW351 := n3_; have GE351 := n4_; have NB350_351 := n5_; have NB351_350 := n6_; clear n0_ n1_ n2_ n3_ n4_ n5_ n6_; clear hb hbox hg; have hnb11 := NB350_351.out; have hnc11 := NB351_350.out; obtain ⟨_, _, _, _, _, _, _, _, _, _, _, _⟩ := bX6 BK350.out; obtain ⟨_, _, _, _, _, _, _, _, _, _, _, _⟩ := bX6 BK351.out) | (go_at_call 31; (with_reducible refine (eqBands.calls k _ _ l0_2 _ _ l1_2 t352 _ ?side1 ?side2 ?side3 ?side4 (by first | rfl | exact HRT.out) A8.out).mono ?_); (case side1 => exact cQ HR0_2 HB); (case side2 => exact HC0_2.out); (case side3 => exact cQ HR1_2 HB); (case side4 => exact HC1_2.out); rintro e w' ⟨rfl, ⟨nd, rfl⟩⟩))
  go_ret
  exact ⟨by first | rfl | (simp [errW_none, errW_some] <;> rfl) | (simp [*, errW_none, errW_some] <;> rfl), by repeat (first | (with_reducible first | exact HB.out | apply bA | apply bD | apply b1 | refine bS ?_ GE350.out | refine bS ?_ GE351.out) | exact HB.out)⟩
/-! ### eqContribs: function 33 -/
def eqContribs.l0 : Nat → List (S43) → List (S43) → Int → Int → Option (Bool)
  | 0, _, _, _, _ => none
  | k + 1, x1, x15, x16, x17 => if x17 < x16 then (if 0 ≤ x17 then (if x17 < (x15.length : Int) then (if x17 < (x1.length : Int) then ((table_Same_1.f k ((rd_T43 x15 x17).f0) ((rd_T43 x15 x17).f1) ((rd_T43 x15 x17).f2) ((rd_T43 x15 x17).f3) ((rd_T43 x15 x17).f4) ((rd_T43 x15 x17).f5) ((rd_T43 x1 x17).f0) ((rd_T43 x1 x17).f1) ((rd_T43 x1 x17).f2) ((rd_T43 x1 x17).f3) ((rd_T43 x1 x17).f4) ((rd_T43 x1 x17).f5)).bind fun t357 => (if t357 = true then (eqContribs.l0 k x1 x15 x16 (wrap64 (x17 + 1))) else (some false))) else (none)) else (none)) else (none)) else (some true)
def eqContribs.f (k : Nat) (l0 : List (S43)) (l1 : List (S43)) : Option (Bool) := if (l0.length : Int) = (l1.length : Int) then (eqContribs.l0 k l1 l0 (l0.length : Int) 0) else (some false)
set_option maxHeartbeats 8000000 in
set_option maxRecDepth 100000 in
theorem eqContribs.calls (k : Nat) (A0 : Option Addr) (c0 : Nat) (l0 : List (S43)) (A1 : Option Addr) (c1 : Nat) (l1 : List (S43)) (r : Bool) (w : World) (hr0 : Kd.C k43 w A0 l0.length l0) (hc0 : l0.length ≤ c0) (hr1 : Kd.C k43 w A1 l1.length l1) (hc1 : l1.length ≤ c1) (hrt : r = true) (h : eqContribs.f k l0 l1 = some r) :
    Calls Tryd.prog 33 #[.slice A0 l0.length c0, .slice A1 l1.length c1, .func (.func 30) #[] #[]] w fun e w' => e = .returned (.bool r) ∧ Below w.heap.size w w' := by
  have HRT := AM hrt
  clear hrt
  have hu49 := Tryd.underlying49
  have HR0 := AM hr0
  have HC0 := AM hc0
  clear hr0 hc0
  have HR1 := AM hr1
  have HC1 := AM hc1
  clear hr1 hc1
  have HB := AM (Below.refl w.heap.size w)
  have H : (if (l0.length : Int) = (l1.length : Int) then (eqContribs.l0 k l1 l0 (l0.length : Int) 0) else (some false)) = some r := h
  clear h
  by_cases c3 : (l0.length : Int) = (l1.length : Int)
  rotate_left
  · rw [if_neg c3] at H
    have c3b0 : ((l0.length : Int) == (l1.length : Int)) = false := beq_eq_false_iff_ne.mpr c3
    have c3b1 : ((l0.length : Int) != (l1.length : Int)) = true := bne_iff_ne.mpr c3
    have c3b2 : (l0.length == l1.length) = false := by first | simpa using c3 | (simp at c3 ⊢; omega)
    exact absurd (Option.some.inj H) (by rw [HRT.out]; decide)


  rw [if_pos c3] at H
  have c3b0 : ((l0.length : Int) == (l1.length : Int)) = true := beq_iff_eq.mpr c3
  have c3b1 : ((l0.length : Int) != (l1.length : Int)) = false := bne_eq_false_iff_eq.mpr c3
  have c3b2 : (l0.length == l1.length) = true := by first | simpa using c3 | (simp at c3 ⊢; omega)
  clear c3
  have H' := AM H
  clear H
  go_enter Tryd.func33, Tryd.ntmps33
  go_wp2
  go_loopg [17] k (fun kq v17 w' => ∃ (x17_1 : Int), v17 = .int .i64 x17_1 ∧ Aside0 (eqContribs.l0 kq l1 l0 (l0.length : Int) x17_1 = some r) ∧ Aside0 (kq ≤ k) ∧ Aside0 (Below w.heap.size w w'))
  case atStart => exact ⟨(0), (by first | rfl | (simp; done) | (simp [*]; done)), H', ⟨Nat.le_refl _⟩, ⟨by repeat (first | (with_reducible first | exact HB.out | apply bA | apply bD | apply b1) | exact HB.out)⟩⟩
  case round =>
    clear H'
    (try clear c1); (try clear p2); (try clear c3); (try clear c3b0); (try clear c3b1); (try clear c3b2)
    obtain ⟨x17_1, rfl, HA, HK1, HB⟩ := hrel
    cases gk with
    | zero => exact absurd HA.out (by simp [eqContribs.l0])
    | succ k1 =>
      have H := HA.out
      clear HA
      simp only [eqContribs.l0] at H
      by_cases c4 : x17_1 < (l0.length : Int)
      rotate_left
      · rw [if_neg c4] at H
        have c4b0 := decide_eq_false c4
        clear c4
        obtain rfl := Option.some.inj H
        go_wp2
        go_ret
        exact ⟨by first | rfl | (simp [errW_none, errW_some] <;> rfl) | (simp [*, errW_none, errW_some] <;> rfl), by repeat (first | (with_reducible first | exact HB.out | apply bA | apply bD | apply b1) | exact HB.out)⟩
      rw [if_pos c4] at H
      have c4b0 := decide_eq_true c4
      clear c4
      by_cases c5 : 0 ≤ x17_1
      rotate_left
      · rw [if_neg c5] at H
        exact absurd H (by simp)
      rw [if_pos c5] at H
      have c5b0 := decide_eq_true c5
      clear c5
      by_cases c6 : x17_1 < (l0.length : Int)
      rotate_left
      · rw [if_neg c6] at H
        exact absurd H (by simp)
      rw [if_pos c6] at H
      have c6b0 := decide_eq_true c6
      clear c6
      by_cases c7 : x17_1 < (l1.length : Int)
      rotate_left
      · rw [if_neg c7] at H
        exact absurd H (by simp)
      rw [if_pos c7] at H
      have c7b0 := decide_eq_true c7
      clear c7
      replace H := Option.bind_eq_some_iff.mp H
      obtain ⟨t357, A80, H⟩ := H
      replace H : (if t357 = true then (eqContribs.l0 k1 l1 l0 (l0.length : Int) (wrap64 (x17_1 + 1))) else (some false)) = some r := H
      have A8 := AM A80
      clear A80
      by_cases c9 : t357 = true
      rotate_left
      · replace c9 := Bool.eq_false_iff.mpr c9
        subst c9
        have H1 : (some false) = some r := by rw [if_neg (show ¬ (false = true) by decide)] at H; exact H
        clear H
        have H := H1
        clear H1
        exact absurd (Option.some.inj H) (by rw [HRT.out]; decide)
      subst c9
      have H1 : (eqContribs.l0 k1 l1 l0 (l0.length : Int) (wrap64 (x17_1 + 1))) = some r := by rw [if_pos rfl] at H; exact H
      clear H
      have H := H1
      clear H1
      have H' := AM H
      clear H
      have p353 : 0 ≤ (x17_1 : Int) := of_decide_eq_true (by first | (with_reducible assumption) | assumption)
      have q353 : x17_1 < (l0.length : Int) := of_decide_eq_true (by first | (with_reducible assumption) | assumption)
      obtain ⟨ad353, A353_2, c353_2, e353, hx353_0, hx353_1, hx353_2, hx353_3, hx353_4, hx353_5, hl353_2, hi353_2⟩ := at_T43 HR0.out x17_1 p353 q353
      cases e353
      replace hx353_0 := (HB.out.cell (bL w _ hx353_0)).trans hx353_0
      replace hx353_1 := (HB.out.cell (bL w _ hx353_1)).trans hx353_1
      replace hx353_2 := (HB.out.cell (bL w _ hx353_2)).trans hx353_2
      replace hx353_3 := (HB.out.cell (bL w _ hx353_3)).trans hx353_3
      replace hx353_4 := (HB.out.cell (bL w _ hx353_4)).trans hx353_4
      replace hx353_5 := (HB.out.cell (bL w _ hx353_5)).trans hx353_5
      have HR353_2 := AM hi353_2
      have HC353_2 := AM hl353_2
      clear hi353_2 hl353_2
      replace p353 := eq_true p353
      replace q353 := eq_true q353
      go_wp2_with (first | ((with_reducible refine gD (N := 8) rfl ?_); refine bE ?hg (N := 8) ?hd (cs := #[.string (⟨#[]⟩ : ByteArray), .int .i64 0, .slice none 0 0, .int .i64 0, .int .i64 0, .int .i64 0]) (t := 49) ?hr ?_; (case hd => rfl); (case hg => rfl); (case hr => first | (go_simp; done) | (go_simp; rfl)); intro gb354 hg w10 hbox hb; have n0_ := AM (bT bQ hb); have n1_ := AM (hbox); have n2_ := AM ((by rw [hg]; exact (bZ bQ) : w.heap.size ≤ gb354)); have n3_ := AM ((by rw [hg]; exact (bZ bQ) : w.heap.size ≤ gb354)); clear HB; have HB := n0_; have BK354 := n1_; have GW354 := n2_; have GE354 := n3_; clear n0_ n1_ n2_ n3_; clear hb hbox hg; obtain ⟨_, _, _, _, _, _, _, _, _, _, _, _⟩ := bX6 BK354.out; have p355 : 0 ≤ (x17_1 : Int) := of_decide_eq_true (by first | (with_reducible assumption) | assumption); have q355 : x17_1 < (l1.length : Int) := of_decide_eq_true (by first | (with_reducible assumption) | assumption); obtain ⟨ad355, A355_2, c355_2, e355, hx355_0, hx355_1, hx355_2, hx355_3, hx355_4, hx355_5, hl355_2, hi355_2⟩ := at_T43 HR1.out x17_1 p355 q355; cases e355; have hn355_0 : ad355.block ≠ gb354 := Nat.ne_of_lt (Nat.lt_of_lt_of_le (by have := bL _ _ hx355_0; first | rwa [add_block] at this | exact this) GW354.out); have hn355_1 : ad355.block ≠ gb354 := Nat.ne_of_lt (Nat.lt_of_lt_of_le (by have := bL _ _ hx355_0; first | rwa [add_block] at this | exact this) GW354.out); have hn355_2 : ad355.block ≠ gb354 := Nat.ne_of_lt (Nat.lt_of_lt_of_le (by have := bL _ _ hx355_0; first | rwa [add_block] at this | exact this) GW354.out); have hn355_3 : ad355.block ≠ gb354 := Nat.ne_of_lt (Nat.lt_of_lt_of_le (by have := bL _ _ hx355_0; first | rwa [add_block] at this | exact this) GW354.out); have hn355_4 : ad355.block ≠ gb354 := Nat.ne_of_lt (Nat.lt_of_lt_of_le (by have := bL _ _ hx355_0; first | rwa [add_block] at this | exact this) GW354.out); have hn355_5 : ad355.block ≠ gb354 := Nat.ne_of_lt (Nat.lt_of_lt_of_le (by have := bL _ _ hx355_0; first | rwa [add_block] at this | exact this) GW354.out); replace hx355_0 := (HB.out.cell (bL w _ hx355_0)).trans hx355_0; replace hx355_1 := (HB.out.cell (bL w _ hx355_1)).trans hx355_1; replace hx355_2 := (HB.out.cell (bL w _ hx355_2)).trans hx355_2; replace hx355_3 := (HB.out.cell (bL w _ hx355_3)).trans hx355_3; replace hx355_4 := (HB.out.cell (bL w _ hx355_4)).trans hx355_4; replace hx355_5 := (HB.out.cell (bL w _ hx355_5)).trans hx355_5; have HR355_2 := AM hi355_2; have HC355_2 := AM hl355_2; clear hi355_2 hl355_2; replace hx355_0 := (cell_far (p := ⟨gb354, 0, none⟩) (by first | (rw [add_block]; exact hn355_0) | (show (Addr.add _ _).block ≠ _; rw [add_block]; exact hn355_0) | exact hn355_0) (.string ((rd_T43 l0 x17_1).f0))).trans hx355_0; replace hx355_1 := (cell_far (p := ⟨gb354, 0, none⟩) (by first | (rw [add_block]; exact hn355_0) | (show (Addr.add _ _).block ≠ _; rw [add_block]; exact hn355_0) | exact hn355_0) (.string ((rd_T43 l0 x17_1).f0))).trans hx355_1; replace hx355_2 := (cell_far (p := ⟨gb354, 0, none⟩) (by first | (rw [add_block]; exact hn355_0) | (show (Addr.add _ _).block ≠ _; rw [add_block]; exact hn355_0) | exact hn355_0) (.string ((rd_T43 l0 x17_1).f0))).trans hx355_2; replace hx355_3 := (cell_far (p := ⟨gb354, 0, none⟩) (by first | (rw [add_block]; exact hn355_0) | (show (Addr.add _ _).block ≠ _; rw [add_block]; exact hn355_0) | exact hn355_0) (.string ((rd_T43 l0 x17_1).f0))).trans hx355_3; replace hx355_4 := (cell_far (p := ⟨gb354, 0, none⟩) (by first | (rw [add_block]; exact hn355_0) | (show (Addr.add _ _).block ≠ _; rw [add_block]; exact hn355_0) | exact hn355_0) (.string ((rd_T43 l0 x17_1).f0))).trans hx355_4; replace hx355_5 := (cell_far (p := ⟨gb354, 0, none⟩) (by first | (rw [add_block]; exact hn355_0) | (show (Addr.add _ _).block ≠ _; rw [add_block]; exact hn355_0) | exact hn355_0) (.string ((rd_T43 l0 x17_1).f0))).trans hx355_5; replace hx355_0 := (cell_far (p := ⟨gb354, 1, none⟩) (by first | (rw [add_block]; exact hn355_1) | (show (Addr.add _ _).block ≠ _; rw [add_block]; exact hn355_1) | exact hn355_1) (.int .i64 ((rd_T43 l0 x17_1).f1))).trans hx355_0; replace hx355_1 := (cell_far (p := ⟨gb354, 1, none⟩) (by first | (rw [add_block]; exact hn355_1) | (show (Addr.add _ _).block ≠ _; rw [add_block]; exact hn355_1) | exact hn355_1) (.int .i64 ((rd_T43 l0 x17_1).f1))).trans hx355_1; replace hx355_2 := (cell_far (p := ⟨gb354, 1, none⟩) (by first | (rw [add_block]; exact hn355_1) | (show (Addr.add _ _).block ≠ _; rw [add_block]; exact hn355_1) | exact hn355_1) (.int .i64 ((rd_T43 l0 x17_1).f1))).trans hx355_2; replace hx355_3 := (cell_far (p := ⟨gb354, 1, none⟩) (by first | (rw [add_block]; exact hn355_1) | (show (Addr.add _ _).block ≠ _; rw [add_block]; exact hn355_1) | exact hn355_1) (.int .i64 ((rd_T43 l0 x17_1).f1))).trans hx355_3; replace hx355_4 := (cell_far (p := ⟨gb354, 1, none⟩) (by first | (rw [add_block]; exact hn355_1) | (show (Addr.add _ _).block ≠ _; rw [add_block]; exact hn355_1) | exact hn355_1) (.int .i64 ((rd_T43 l0 x17_1).f1))).trans hx355_4; replace hx355_5 := (cell_far (p := ⟨gb354, 1, none⟩) (by first | (rw [add_block]; exact hn355_1) | (show (Addr.add _ _).block ≠ _; rw [add_block]; exact hn355_1) | exact hn355_1) (.int .i64 ((rd_T43 l0 x17_1).f1))).trans hx355_5; replace hx355_0 := (cell_far (p := ⟨gb354, 2, none⟩) (by first | (rw [add_block]; exact hn355_2) | (show (Addr.add _ _).block ≠ _; rw [add_block]; exact hn355_2) | exact hn355_2) (.slice A353_2 ((rd_T43 l0 x17_1).f2).length c353_2)).trans hx355_0; replace hx355_1 := (cell_far (p := ⟨gb354, 2, none⟩) (by first | (rw [add_block]; exact hn355_2) | (show (Addr.add _ _).block ≠ _; rw [add_block]; exact hn355_2) | exact hn355_2) (.slice A353_2 ((rd_T43 l0 x17_1).f2).length c353_2)).trans hx355_1; replace hx355_2 := (cell_far (p := ⟨gb354, 2, none⟩) (by first | (rw [add_block]; exact hn355_2) | (show (Addr.add _ _).block ≠ _; rw [add_block]; exact hn355_2) | exact hn355_2) (.slice A353_2 ((rd_T43 l0 x17_1).f2).length c353_2)).trans hx355_2; replace hx355_3 := (cell_far (p := ⟨gb354, 2, none⟩) (by first | (rw [add_block]; exact hn355_2) | (show (Addr.add _ _).block ≠ _; rw [add_block]; exact hn355_2) | exact hn355_2) (.slice A353_2 ((rd_T43 l0 x17_1).f2).length c353_2)).trans hx355_3; replace hx355_4 := (cell_far (p := ⟨gb354, 2, none⟩) (by first | (rw [add_block]; exact hn355_2) | (show (Addr.add _ _).block ≠ _; rw [add_block]; exact hn355_2) | exact hn355_2) (.slice A353_2 ((rd_T43 l0 x17_1).f2).length c353_2)).trans hx355_4; replace hx355_5 := (cell_far (p := ⟨gb354, 2, none⟩) (by first | (rw [add_block]; exact hn355_2) | (show (Addr.add _ _).block ≠ _; rw [add_block]; exact hn355_2) | exact hn355_2) (.slice A353_2 ((rd_T43 l0 x17_1).f2).length c353_2)).trans hx355_5; replace hx355_0 := (cell_far (p := ⟨gb354, 3, none⟩) (by first | (rw [add_block]; exact hn355_3) | (show (Addr.add _ _).block ≠ _; rw [add_block]; exact hn355_3) | exact hn355_3) (.int .i64 ((rd_T43 l0 x17_1).f3))).trans hx355_0; replace hx355_1 := (cell_far (p := ⟨gb354, 3, none⟩) (by first | (rw [add_block]; exact hn355_3) | (show (Addr.add _ _).block ≠ _; rw [add_block]; exact hn355_3) | exact hn355_3) (.int .i64 ((rd_T43 l0 x17_1).f3))).trans hx355_1; replace hx355_2 := (cell_far (p := ⟨gb354, 3, none⟩) (by first | (rw [add_block]; exact hn355_3) | (show (Addr.add _ _).block ≠ _; rw [add_block]; exact hn355_3) | exact hn355_3) (.int .i64 ((rd_T43 l0 x17_1).f3))).trans hx355_2; replace hx355_3 := (cell_far (p := ⟨gb354, 3, none⟩) (by first | (rw [add_block]; exact hn355_3) | (show (Addr.add _ _).block ≠ _; rw [add_block]; exact hn355_3) | exact hn355_3) (.int .i64 ((rd_T43 l0 x17_1).f3))).trans hx355_3; replace hx355_4 := (cell_far (p := ⟨gb354, 3, none⟩) (by first | (rw [add_block]; exact hn355_3) | (show (Addr.add _ _).block ≠ _; rw [add_block]; exact hn355_3) | exact hn355_3) (.int .i64 ((rd_T43 l0 x17_1).f3))).trans hx355_4; replace hx355_5 := (cell_far (p := ⟨gb354, 3, none⟩) (by first | (rw [add_block]; exact hn355_3) | (show (Addr.add _ _).block ≠ _; rw [add_block]; exact hn355_3) | exact hn355_3) (.int .i64 ((rd_T43 l0 x17_1).f3))).trans hx355_5; replace hx355_0 := (cell_far (p := ⟨gb354, 4, none⟩) (by first | (rw [add_block]; exact hn355_4) | (show (Addr.add _ _).block ≠ _; rw [add_block]; exact hn355_4) | exact hn355_4) (.int .i64 ((rd_T43 l0 x17_1).f4))).trans hx355_0; replace hx355_1 := (cell_far (p := ⟨gb354, 4, none⟩) (by first | (rw [add_block]; exact hn355_4) | (show (Addr.add _ _).block ≠ _; rw [add_block]; exact hn355_4) | exact hn355_4) (.int .i64 ((rd_T43 l0 x17_1).f4))).trans hx355_1; replace hx355_2 := (cell_far (p := ⟨gb354, 4, none⟩) (by first | (rw [add_block]; exact hn355_4) | (show (Addr.add _ _).block ≠ _; rw [add_block]; exact hn355_4) | exact hn355_4) (.int .i64 ((rd_T43 l0 x17_1).f4))).trans hx355_2; replace hx355_3 := (cell_far (p := ⟨gb354, 4, none⟩) (by first | (rw [add_block]; exact hn355_4) | (show (Addr.add _ _).block ≠ _; rw [add_block]; exact hn355_4) | exact hn355_4) (.int .i64 ((rd_T43 l0 x17_1).f4))).trans hx355_3; replace hx355_4 := (cell_far (p := ⟨gb354, 4, none⟩) (by first | (rw [add_block]; exact hn355_4) | (show (Addr.add _ _).block ≠ _; rw [add_block]; exact hn355_4) | exact hn355_4) (.int .i64 ((rd_T43 l0 x17_1).f4))).trans hx355_4; replace hx355_5 := (cell_far (p := ⟨gb354, 4, none⟩) (by first | (rw [add_block]; exact hn355_4) | (show (Addr.add _ _).block ≠ _; rw [add_block]; exact hn355_4) | exact hn355_4) (.int .i64 ((rd_T43 l0 x17_1).f4))).trans hx355_5; replace hx355_0 := (cell_far (p := ⟨gb354, 5, none⟩) (by first | (rw [add_block]; exact hn355_5) | (show (Addr.add _ _).block ≠ _; rw [add_block]; exact hn355_5) | exact hn355_5) (.int .i64 ((rd_T43 l0 x17_1).f5))).trans hx355_0; replace hx355_1 := (cell_far (p := ⟨gb354, 5, none⟩) (by first | (rw [add_block]; exact hn355_5) | (show (Addr.add _ _).block ≠ _; rw [add_block]; exact hn355_5) | exact hn355_5) (.int .i64 ((rd_T43 l0 x17_1).f5))).trans hx355_1; replace hx355_2 := (cell_far (p := ⟨gb354, 5, none⟩) (by first | (rw [add_block]; exact hn355_5) | (show (Addr.add _ _).block ≠ _; rw [add_block]; exact hn355_5) | exact hn355_5) (.int .i64 ((rd_T43 l0 x17_1).f5))).trans hx355_2; replace hx355_3 := (cell_far (p := ⟨gb354, 5, none⟩) (by first | (rw [add_block]; exact hn355_5) | (show (Addr.add _ _).block ≠ _; rw [add_block]; exact hn355_5) | exact hn355_5) (.int .i64 ((rd_T43 l0 x17_1).f5))).trans hx355_3; replace hx355_4 := (cell_far (p := ⟨gb354, 5, none⟩) (by first | (rw [add_block]; exact hn355_5) | (show (Addr.add _ _).block ≠ _; rw [add_block]; exact hn355_5) | exact hn355_5) (.int .i64 ((rd_T43 l0 x17_1).f5))).trans hx355_4; replace hx355_5 := (cell_far (p := ⟨gb354, 5, none⟩) (by first | (rw [add_block]; exact hn355_5) | (show (Addr.add _ _).block ≠ _; rw [add_block]; exact hn355_5) | exact hn355_5) (.int .i64 ((rd_T43 l0 x17_1).f5))).trans hx355_5; clear hn355_0; clear hn355_1; clear hn355_2; clear hn355_3; clear hn355_4; clear hn355_5; replace p355 := eq_true p355; replace q355 := eq_true q355) | ((with_reducible refine gD (N := 9) rfl ?_); refine bE ?hg (N := 9) ?hd (cs := #[.string (⟨#[]⟩ : ByteArray), .int .i64 0, .slice none 0 0, .int .i64 0, .int .i64 0, .int .i64 0]) (t := 49) ?hr ?_; (case hd => rfl); (case hg => rfl); (case hr => first | (go_simp; done) | (go_simp; rfl)); intro gb356 hg w12 hbox hb; have n0_ := AM (kB (g := gb354) (o := .cells #[.string ((rd_T43 l0 x17_1).f0), .int .i64 ((rd_T43 l0 x17_1).f1), .slice A353_2 ((rd_T43 l0 x17_1).f2).length c353_2, .int .i64 ((rd_T43 l0 x17_1).f3), .int .i64 ((rd_T43 l0 x17_1).f4), .int .i64 ((rd_T43 l0 x17_1).f5)] 49 (0, 0)) (by (with_reducible repeat (first | refine kD ?_ _ | refine k1_ ?_ | refine kA ?_ _)); refine kP (cs := #[.string ((rd_T43 l0 x17_1).f0), .int .i64 ((rd_T43 l0 x17_1).f1), .slice A353_2 ((rd_T43 l0 x17_1).f2).length c353_2, .int .i64 ((rd_T43 l0 x17_1).f3), .int .i64 ((rd_T43 l0 x17_1).f4), .int .i64 0]) ?_ 5 _ rfl; (with_reducible repeat (first | refine kD ?_ _ | refine k1_ ?_ | refine kA ?_ _)); refine kP (cs := #[.string ((rd_T43 l0 x17_1).f0), .int .i64 ((rd_T43 l0 x17_1).f1), .slice A353_2 ((rd_T43 l0 x17_1).f2).length c353_2, .int .i64 ((rd_T43 l0 x17_1).f3), .int .i64 0, .int .i64 0]) ?_ 4 _ rfl; (with_reducible repeat (first | refine kD ?_ _ | refine k1_ ?_ | refine kA ?_ _)); refine kP (cs := #[.string ((rd_T43 l0 x17_1).f0), .int .i64 ((rd_T43 l0 x17_1).f1), .slice A353_2 ((rd_T43 l0 x17_1).f2).length c353_2, .int .i64 0, .int .i64 0, .int .i64 0]) ?_ 3 _ rfl; (with_reducible repeat (first | refine kD ?_ _ | refine k1_ ?_ | refine kA ?_ _)); refine kP (cs := #[.string ((rd_T43 l0 x17_1).f0), .int .i64 ((rd_T43 l0 x17_1).f1), .slice none 0 0, .int .i64 0, .int .i64 0, .int .i64 0]) ?_ 2 _ rfl; (with_reducible repeat (first | refine kD ?_ _ | refine k1_ ?_ | refine kA ?_ _)); refine kP (cs := #[.string ((rd_T43 l0 x17_1).f0), .int .i64 0, .slice none 0 0, .int .i64 0, .int .i64 0, .int .i64 0]) ?_ 1 _ rfl; (with_reducible repeat (first | refine kD ?_ _ | refine k1_ ?_ | refine kA ?_ _)); refine kP (cs := #[.string (⟨#[]⟩ : ByteArray), .int .i64 0, .slice none 0 0, .int .i64 0, .int .i64 0, .int .i64 0]) ?_ 0 _ rfl; (with_reducible repeat (first | refine kD ?_ _ | refine k1_ ?_ | refine kA ?_ _)); exact BK354.out) hb); have n1_ := AM (bT bQ hb); have n2_ := AM (hbox); have n3_ := AM ((by rw [hg]; exact (bZ bQ) : w.heap.size ≤ gb356)); have n4_ := AM ((by rw [hg]; exact (bZ bQ) : w.heap.size ≤ gb356)); have n5_ := AM ((by rw [hg]; exact Nat.ne_of_lt (blk_lt (g := gb354) (o := .cells #[.string ((rd_T43 l0 x17_1).f0), .int .i64 ((rd_T43 l0 x17_1).f1), .slice A353_2 ((rd_T43 l0 x17_1).f2).length c353_2, .int .i64 ((rd_T43 l0 x17_1).f3), .int .i64 ((rd_T43 l0 x17_1).f4), .int .i64 ((rd_T43 l0 x17_1).f5)] 49 (0, 0)) (by (with_reducible repeat (first | refine kD ?_ _ | refine k1_ ?_ | refine kA ?_ _)); refine kP (cs := #[.string ((rd_T43 l0 x17_1).f0), .int .i64 ((rd_T43 l0 x17_1).f1), .slice A353_2 ((rd_T43 l0 x17_1).f2).length c353_2, .int .i64 ((rd_T43 l0 x17_1).f3), .int .i64 ((rd_T43 l0 x17_1).f4), .int .i64 0]) ?_ 5 _ rfl; (with_reducible repeat (first | refine kD ?_ _ | refine k1_ ?_ | refine kA ?_ _)); refine kP (cs := #[.string ((rd_T43 l0 x17_1).f0), .int .i64 ((rd_T43 l0 x17_1).f1), .slice A353_2 ((rd_T43 l0 x17_1).f2).length c353_2, .int .i64 ((rd_T43 l0 x17_1).f3), .int .i64 0, .int .i64 0]) ?_ 4 _ rfl; (with_reducible repeat (first | refine kD ?_ _ | refine k1_ ?_ | refine kA ?_ _)); refine kP (cs := #[.string ((rd_T43 l0 x17_1).f0), .int .i64 ((rd_T43 l0 x17_1).f1), .slice A353_2 ((rd_T43 l0 x17_1).f2).length c353_2, .int .i64 0, .int .i64 0, .int .i64 0]) ?_ 3 _ rfl; (with_reducible repeat (first | refine kD ?_ _ | refine k1_ ?_ | refine kA ?_ _)); refine kP (cs := #[.string ((rd_T43 l0 x17_1).f0), .int .i64 ((rd_T43 l0 x17_1).f1), .slice none 0 0, .int .i64 0, .int .i64 0, .int .i64 0]) ?_ 2 _ rfl; (with_reducible repeat (first | refine kD ?_ _ | refine k1_ ?_ | refine kA ?_ _)); refine kP (cs := #[.string ((rd_T43 l0 x17_1).f0), .int .i64 0, .slice none 0 0, .int .i64 0, .int .i64 0, .int .i64 0]) ?_ 1 _ rfl; (with_reducible repeat (first | refine kD ?_ _ | refine k1_ ?_ | refine kA ?_ _)); refine kP (cs := #[.string (⟨#[]⟩ : ByteArray), .int .i64 0, .slice none 0 0, .int .i64 0, .int .i64 0, .int .i64 0]) ?_ 0 _ rfl; (with_reducible repeat (first | refine kD ?_ _ | refine k1_ ?_ | refine kA ?_ _)); exact BK354.out)) : gb354 ≠ gb356)); have n6_ := AM ((by rw [hg]; exact Nat.ne_of_gt (blk_lt (g := gb354) (o := .cells #[.string ((rd_T43 l0 x17_1).f0), .int .i64 ((rd_T43 l0 x17_1).f1), .slice A353_2 ((rd_T43 l0 x17_1).f2).length c353_2, .int .i64 ((rd_T43 l0 x17_1).f3), .int .i64 ((rd_T43 l0 x17_1).f4), .int .i64 ((rd_T43 l0 x17_1).f5)] 49 (0, 0)) (by (with_reducible repeat (first | refine kD ?_ _ | refine k1_ ?_ | refine kA ?_ _)); refine kP (cs := #[.string ((rd_T43 l0 x17_1).f0), .int .i64 ((rd_T43 l0 x17_1).f1), .slice A353_2 ((rd_T43 l0 x17_1).f2).length c353_2, .int .i64 ((rd_T43 l0 x17_1).f3), .int .i64 ((rd_T43 l0 x17_1).f4), .int .i64 0]) ?_ 5 _ rfl; (with_reducible repeat (first | refine kD ?_ _ | refine k1_ ?_ | refine kA ?_ _)); refine kP (cs := #[.string ((rd_T43 l0 x17_1).f0), .int .i64 ((rd_T43 l0 x17_1).f1), .slice A353_2 ((rd_T43 l0 x17_1).f2).length c353_2, .int .i64 ((rd_T43 l0 x17_1).f3), .int .i64 0, .int .i64 0]) ?_ 4 _ rfl; (with_reducible repeat (first | refine kD ?_ _ | refine k1_ ?_ | refine kA ?_ _)); refine kP (cs := #[.string ((rd_T43 l0 x17_1).f0), .int .i64 ((rd_T43 l0 x17_1).f1), .slice A353_2 ((rd_T43 l0 x17_1).f2).length c353_2, .int .i64 0, .int .i64 0, .int .i64 0]) ?_ 3 _ rfl; (with_reducible repeat (first | refine kD ?_ _ | refine k1_ ?_ | refine kA ?_ _)); refine kP (cs := #[.string ((rd_T43 l0 x17_1).f0), .int .i64 ((rd_T43 l0 x17_1).f1), .slice none 0 0, .int .i64 0, .int .i64 0, .int .i64 0]) ?_ 2 _ rfl; (with_reducible repeat (first | refine kD ?_ _ | refine k1_ ?_ | refine kA ?_ _)); refine kP (cs := #[.string ((rd_T43 l0 x17_1).f0), .int .i64 0, .slice none 0 0, .int .i64 0, .int .i64 0, .int .i64 0]) ?_ 1 _ rfl; (with_reducible repeat (first | refine kD ?_ _ | refine k1_ ?_ | refine kA ?_ _)); refine kP (cs := #[.string (⟨#[]⟩ : ByteArray), .int .i64 0, .slice none 0 0, .int .i64 0, .int .i64 0, .int .i64 0]) ?_ 0 _ rfl; (with_reducible repeat (first | refine kD ?_ _ | refine k1_ ?_ | refine kA ?_ _)); exact BK354.out)) : gb356 ≠ gb354)); clear BK354; clear HB; have BK354 := n0_; have HB := n1_; have BK356 := n2_; have GW356 := n3_; have GE356 := n4_; have NB354_356 := n5_; have NB356_354 := n6_; clear n0_ n1_ n2_ n3_ n4_ n5_ n6_; clear hb hbox hg; have hnb13 := NB356_354.out; have hnc13 := NB354_356.out; obtain ⟨_, _, _, _, _, _, _, _, _, _, _, _⟩ := bX6 BK356.out; obtain ⟨_, _, _, _, _, _, _, _, _, _, _, _⟩ := bX6 BK354.out) | (go_at_call 30; (with_reducible refine (table_Same_1.calls k1 ((rd_T43 l0 x17_1).f0) ((rd_T43 l0 x17_1).f1) _ _ ((rd_T43 l0 x17_1).f2) ((rd_T43 l0 x17_1).f3) ((rd_T43 l0 x17_1).f4) ((rd_T43 l0 x17_1).f5) ((rd_T43 l1 x17_1).f0) ((rd_T43 l1 x17_1).f1) _ _ ((rd_T43 l1 x17_1).f2) ((rd_T43 l1 x17_1).f3) ((rd_T43 l1 x17_1).f4) ((rd_T43 l1 x17_1).f5) true _ ?side1 ?side2 ?side3 ?side4 (by first | rfl | exact HRT.out) A8.out).mono ?_); (case side1 => exact cB HR353_2.out bQ); (case side2 => exact HC353_2.out); (case side3 => exact cB HR355_2.out bQ); (case side4 => exact HC355_2.out); rintro e w16 ⟨rfl, hb⟩; have n0_ := AM (kB (g := gb354) (o := .cells #[.string ((rd_T43 l0 x17_1).f0), .int .i64 ((rd_T43 l0 x17_1).f1), .slice A353_2 ((rd_T43 l0 x17_1).f2).length c353_2, .int .i64 ((rd_T43 l0 x17_1).f3), .int .i64 ((rd_T43 l0 x17_1).f4), .int .i64 ((rd_T43 l0 x17_1).f5)] 49 (0, 0)) (by (with_reducible repeat (first | refine kD ?_ _ | refine k1_ ?_ | refine kA ?_ _)); refine kF ?_ NB354_356.out _; (with_reducible repeat (first | refine kD ?_ _ | refine k1_ ?_ | refine kA ?_ _)); refine kF ?_ NB354_356.out _; (with_reducible repeat (first | refine kD ?_ _ | refine k1_ ?_ | refine kA ?_ _)); refine kF ?_ NB354_356.out _; (with_reducible repeat (first | refine kD ?_ _ | refine k1_ ?_ | refine kA ?_ _)); refine kF ?_ NB354_356.out _; (with_reducible repeat (first | refine kD ?_ _ | refine k1_ ?_ | refine kA ?_ _)); refine kF ?_ NB354_356.out _; (with_reducible repeat (first | refine kD ?_ _ | refine k1_ ?_ | refine kA ?_ _)); refine kF ?_ NB354_356.out _; (with_reducible repeat (first | refine kD ?_ _ | refine k1_ ?_ | refine kA ?_ _)); exact BK354.out) hb); have n1_ := AM (kB (g := gb356) (o := .cells #[.string ((rd_T43 l1 x17_1).f0), .int .i64 ((rd_T43 l1 x17_1).f1), .slice A355_2 ((rd_T43 l1 x17_1).f2).length c355_2, .int .i64 ((rd_T43 l1 x17_1).f3), .int .i64 ((rd_T43 l1 x17_1).f4), .int .i64 ((rd_T43 l1 x17_1).f5)] 49 (0, 0)) (by (with_reducible repeat (first | refine kD ?_ _ | refine k1_ ?_ | refine kA ?_ _)); refine kP (cs := #[.string ((rd_T43 l1 x17_1).f0), .int .i64 ((rd_T43 l1 x17_1).f1), .slice A355_2 ((rd_T43 l1 x17_1).f2).length c355_2, .int .i64 ((rd_T43 l1 x17_1).f3), .int .i64 ((rd_T43 l1 x17_1).f4), .int .i64 0]) ?_ 5 _ rfl; (with_reducible repeat (first | refine kD ?_ _ | refine k1_ ?_ | refine kA ?_ _)); refine kP (cs := #[.string ((rd_T43 l1 x17_1).f0), .int .i64 ((rd_T43 l1 x17_1).f1), .slice A355_2 ((rd_T43 l1 x17_1).f2).length c355_2, .int .i64 ((rd_T43 l1 x17_1).f3), .int .i64 0, .int .i64 0]) ?_ 4 _ rfl; (with_reducible repeat (first | refine kD ?_ _ | refine k1_ ?_ | refine kA ?_ _)); refine kP (cs := #[.string ((rd_T43 l1 x17_1).f0), .int .i64 ((rd_T43 l1 x17_1).f1), .slice A355_2 ((rd_T43 l1 x17_1).f2).length c355_2, .int .i64 0, .int .i64 0, .int .i64 0]) ?_ 3 _ rfl; (with_reducible repeat (first | refine kD ?_ _ | refine k1_ ?_ | refine kA ?_ _)); refine kP (cs := #[.string ((rd_T43 l1 x17_1).f0), .int .i64 ((rd_T43 l1 x17_1).f1), .slice none 0 0, .int .i64 0, .int .i64 0, .int .i64 0]) ?_ 2 _ rfl; (with_reducible repeat (first | refine kD ?_ _ | refine k1_ ?_ | refine kA ?_ _)); refine kP (cs := #[.string ((rd_T43 l1 x17_1).f0), .int .i64 0, .slice none 0 0, .int .i64 0, .int .i64 0, .int .i64 0]) ?_ 1 _ rfl; (with_reducible repeat (first | refine kD ?_ _ | refine k1_ ?_ | refine kA ?_ _)); refine kP (cs := #[.string (⟨#[]⟩ : ByteArray), .int .i64 0, .slice none 0 0, .int .i64 0, .int .i64 0, .int .i64 0]) ?_ 0 _ rfl; (with_reducible repeat (first | refine kD ?_ _ | refine k1_ ?_ | refine kA ?_ _)); exact BK356.out) hb); have n2_ := AM (bT bQ hb); clear BK354; clear BK356; clear HB; have BK354 := n0_; have BK356 := n1_; have HB := n2_; clear n0_ n1_ n2_; (try clear hb); (try clear hb2); (try clear hk); (try clear hi)))
      go_roundg k1
      case measure => have := HK1.out; omega
      case rel => exact ⟨(wrap64 (x17_1 + 1)), (by first | rfl | (simp; done) | (simp [*]; done)), H', ⟨by have := HK1.out; omega⟩, ⟨by repeat (first | (with_reducible first | exact HB.out | apply bA | apply bD | apply b1 | refine bS ?_ GE354.out | refine bS ?_ GE356.out) | exact HB.out)⟩⟩
/-! ### table_Same_2: function 35 -/
def table_Same_2.f (k : Nat) (l0 : List (S41)) (l1 : List (S41)) : Option (Bool) := (eqBands.f k l0 l1).bind fun t358 => (some t358)
set_option maxHeartbeats 8000000 in
set_option maxRecDepth 100000 in
theorem table_Same_2.calls (k : Nat) (A0 : Option Addr) (c0 : Nat) (l0 : List (S41)) (A1 : Option Addr) (c1 : Nat) (l1 : List (S41)) (r : Bool) (w : World) (hr0 : Kd.C k41 w A0 l0.length l0) (hc0 : l0.length ≤ c0) (hr1 : Kd.C k41 w A1 l1.length l1) (hc1 : l1.length ≤ c1) (hrt : r = true) (h : table_Same_2.f k l0 l1 = some r) :
    Calls Tryd.prog 35 #[.slice A0 l0.length c0, .slice A1 l1.length c1] w fun e w' => e = .returned (.bool r) ∧ Drawn0 w w' := by
  have HRT := AM hrt
  clear hrt
  have HR0 := AM hr0
  have HC0 := AM hc0
  clear hr0 hc0
  have HR1 := AM hr1
  have HC1 := AM hc1
  clear hr1 hc1
  have H : ((eqBands.f k l0 l1).bind fun t358 => (some t358)) = some r := h
  clear h
  replace H := Option.bind_eq_some_iff.mp H
  obtain ⟨t358, A30, H⟩ := H
  replace H : (some t358) = some r := H
  have A3 := AM A30
  clear A30
  obtain rfl := Option.some.inj H
  go_enter Tryd.func35, Tryd.ntmps35
  go_wp2_with (first | ((with_reducible refine gC (f := 31) rfl ?_); refine gL (some 7) rfl rfl Tryd.func31 (by kernel_rfl) rfl #[.slice A0 l0.length c0, .slice A1 l1.length c1] rfl (by (try simp only [List.map_toArray, List.map_cons, List.map_nil]); first | done | rfl | (simp only [List.length_drop, List.length_take]; rfl)) ?_; (with_reducible refine (eqBands.calls k _ _ l0 _ _ l1 t358 _ ?side1 ?side2 ?side3 ?side4 (by first | rfl | exact HRT.out) A3.out).mono ?_); (case side1 => repeat (first | exact HR0.out | (with_reducible refine cA ?_ _) | (with_reducible refine cD ?_ _) | (with_reducible refine c1_ ?_))); (case side2 => exact HC0.out); (case side3 => repeat (first | exact HR1.out | (with_reducible refine cA ?_ _) | (with_reducible refine cD ?_ _) | (with_reducible refine c1_ ?_))); (case side4 => exact HC1.out); rintro e w' ⟨rfl, ⟨nd, rfl⟩⟩; refine ⟨_, rfl, ?_⟩))
  go_ret
  exact ⟨by first | rfl | (simp; done) | (simp [*]; done), by repeat (first | exact Drawn0.refl _ | apply Drawn0.step)⟩


/-! ### eqSchemes: function 34 -/
def eqSchemes.l0 : Nat → List (List (S41)) → List (List (S41)) → Int → Int → Option (Bool)
  | 0, _, _, _, _ => none
  | k + 1, x1, x15, x16, x17 => if x17 < x16 then (if 0 ≤ x17 then (if x17 < (x15.length : Int) then (if x17 < (x1.length : Int) then ((table_Same_2.f k (rd_L2 x15 x17) (rd_L2 x1 x17)).bind fun t361 => (if t361 = true then (eqSchemes.l0 k x1 x15 x16 (wrap64 (x17 + 1))) else (some false))) else (none)) else (none)) else (none)) else (some true)
def eqSchemes.f (k : Nat) (l0 : List (List (S41))) (l1 : List (List (S41))) : Option (Bool) := if (l0.length : Int) = (l1.length : Int) then (eqSchemes.l0 k l1 l0 (l0.length : Int) 0) else (some false)
set_option maxHeartbeats 8000000 in
set_option maxRecDepth 100000 in
theorem eqSchemes.calls (k : Nat) (A0 : Option Addr) (c0 : Nat) (l0 : List (List (S41))) (A1 : Option Addr) (c1 : Nat) (l1 : List (List (S41))) (r : Bool) (w : World) (hr0 : Kd.C (Kd.slice 52 k41) w A0 l0.length l0) (hc0 : l0.length ≤ c0) (hr1 : Kd.C (Kd.slice 52 k41) w A1 l1.length l1) (hc1 : l1.length ≤ c1) (hrt : r = true) (h : eqSchemes.f k l0 l1 = some r) :
    Calls Tryd.prog 34 #[.slice A0 l0.length c0, .slice A1 l1.length c1, .func (.func 35) #[] #[]] w fun e w' => e = .returned (.bool r) ∧ Drawn0 w w' := by
  have HRT := AM hrt
  clear hrt
  have HR0 := AM hr0
  have HC0 := AM hc0
  clear hr0 hc0
  have HR1 := AM hr1
  have HC1 := AM hc1
  clear hr1 hc1
  have H : (if (l0.length : Int) = (l1.length : Int) then (eqSchemes.l0 k l1 l0 (l0.length : Int) 0) else (some false)) = some r := h
  clear h
  by_cases c3 : (l0.length : Int) = (l1.length : Int)
  rotate_left
  · rw [if_neg c3] at H
    have c3b0 : ((l0.length : Int) == (l1.length : Int)) = false := beq_eq_false_iff_ne.mpr c3
    have c3b1 : ((l0.length : Int) != (l1.length : Int)) = true := bne_iff_ne.mpr c3
    have c3b2 : (l0.length == l1.length) = false := by first | simpa using c3 | (simp at c3 ⊢; omega)
    exact absurd (Option.some.inj H) (by rw [HRT.out]; decide)


  rw [if_pos c3] at H
  have c3b0 : ((l0.length : Int) == (l1.length : Int)) = true := beq_iff_eq.mpr c3
  have c3b1 : ((l0.length : Int) != (l1.length : Int)) = false := bne_eq_false_iff_eq.mpr c3
  have c3b2 : (l0.length == l1.length) = true := by first | simpa using c3 | (simp at c3 ⊢; omega)
  clear c3
  have H' := AM H
  clear H
  go_enter Tryd.func34, Tryd.ntmps34
  go_wp2
  go_loopg [17] k (fun kq v17 w' => ∃ (x17_1 : Int), v17 = .int .i64 x17_1 ∧ Aside0 (eqSchemes.l0 kq l1 l0 (l0.length : Int) x17_1 = some r) ∧ Aside0 (kq ≤ k) ∧ Drawn0 w w')
  case atStart => exact ⟨(0), (by first | rfl | (simp; done) | (simp [*]; done)), H', ⟨Nat.le_refl _⟩, by repeat (first | exact Drawn0.refl _ | apply Drawn0.step)⟩
  case round =>
    clear H'
    (try clear c1); (try clear p2); (try clear c3); (try clear c3b0); (try clear c3b1); (try clear c3b2)
    obtain ⟨x17_1, rfl, HA, HK1, ⟨m1, rfl⟩⟩ := hrel
    cases gk with
    | zero => exact absurd HA.out (by simp [eqSchemes.l0])
    | succ k1 =>
      have H := HA.out
      clear HA
      simp only [eqSchemes.l0] at H
      by_cases c4 : x17_1 < (l0.length : Int)
      rotate_left
      · rw [if_neg c4] at H
        have c4b0 := decide_eq_false c4
        clear c4
        obtain rfl := Option.some.inj H
        go_wp2
        go_ret
        exact ⟨by first | rfl | (simp; done) | (simp [*]; done), by repeat (first | exact Drawn0.refl _ | apply Drawn0.step)⟩
      rw [if_pos c4] at H
      have c4b0 := decide_eq_true c4
      clear c4
      by_cases c5 : 0 ≤ x17_1
      rotate_left
      · rw [if_neg c5] at H
        exact absurd H (by simp)
      rw [if_pos c5] at H
      have c5b0 := decide_eq_true c5
      clear c5
      by_cases c6 : x17_1 < (l0.length : Int)
      rotate_left
      · rw [if_neg c6] at H
        exact absurd H (by simp)
      rw [if_pos c6] at H
      have c6b0 := decide_eq_true c6
      clear c6
      by_cases c7 : x17_1 < (l1.length : Int)
      rotate_left
      · rw [if_neg c7] at H
        exact absurd H (by simp)
      rw [if_pos c7] at H
      have c7b0 := decide_eq_true c7
      clear c7
      replace H := Option.bind_eq_some_iff.mp H
      obtain ⟨t361, A80, H⟩ := H
      replace H : (if t361 = true then (eqSchemes.l0 k1 l1 l0 (l0.length : Int) (wrap64 (x17_1 + 1))) else (some false)) = some r := H
      have A8 := AM A80
      clear A80
      by_cases c9 : t361 = true
      rotate_left
      · replace c9 := Bool.eq_false_iff.mpr c9
        subst c9
        have H1 : (some false) = some r := by rw [if_neg (show ¬ (false = true) by decide)] at H; exact H
        clear H
        have H := H1
        clear H1
        exact absurd (Option.some.inj H) (by rw [HRT.out]; decide)
      subst c9
      have H1 : (eqSchemes.l0 k1 l1 l0 (l0.length : Int) (wrap64 (x17_1 + 1))) = some r := by rw [if_pos rfl] at H; exact H
      clear H
      have H := H1
      clear H1
      have H' := AM H
      clear H
      have p359 : 0 ≤ (x17_1 : Int) := of_decide_eq_true (by first | (with_reducible assumption) | assumption)
      have q359 : x17_1 < (l0.length : Int) := of_decide_eq_true (by first | (with_reducible assumption) | assumption)
      obtain ⟨ad359, A359_0, c359_0, e359, hx359_0, hl359_0, hi359_0⟩ := at_L2 HR0.out x17_1 p359 q359
      cases e359
      have HR359_0 := AM hi359_0
      have HC359_0 := AM hl359_0
      clear hi359_0 hl359_0
      replace p359 := eq_true p359
      replace q359 := eq_true q359
      have p360 : 0 ≤ (x17_1 : Int) := of_decide_eq_true (by first | (with_reducible assumption) | assumption)
      have q360 : x17_1 < (l1.length : Int) := of_decide_eq_true (by first | (with_reducible assumption) | assumption)
      obtain ⟨ad360, A360_0, c360_0, e360, hx360_0, hl360_0, hi360_0⟩ := at_L2 HR1.out x17_1 p360 q360
      cases e360
      have HR360_0 := AM hi360_0
      have HC360_0 := AM hl360_0
      clear hi360_0 hl360_0
      replace p360 := eq_true p360
      replace q360 := eq_true q360
      go_wp2_with (first | (go_at_call 35; (with_reducible refine (table_Same_2.calls k1 _ _ (rd_L2 l0 x17_1) _ _ (rd_L2 l1 x17_1) true _ ?side1 ?side2 ?side3 ?side4 (by first | rfl | exact HRT.out) A8.out).mono ?_); (case side1 => repeat (first | exact HR359_0.out | (with_reducible refine cA ?_ _) | (with_reducible refine cD ?_ _) | (with_reducible refine c1_ ?_))); (case side2 => exact HC359_0.out); (case side3 => repeat (first | exact HR360_0.out | (with_reducible refine cA ?_ _) | (with_reducible refine cD ?_ _) | (with_reducible refine c1_ ?_))); (case side4 => exact HC360_0.out); rintro e w' ⟨rfl, ⟨nd, rfl⟩⟩))
      go_roundg k1
      case measure => have := HK1.out; omega
      case rel => exact ⟨(wrap64 (x17_1 + 1)), (by first | rfl | (simp; done) | (simp [*]; done)), H', ⟨by have := HK1.out; omega⟩, by repeat (first | exact Drawn0.refl _ | apply Drawn0.step)⟩
/-! ### table_Same: function 13 -/
def table_Same.f (k : Nat) (l0_0 : List (List (S41))) (l0_1 : List (S43)) (l0_2 : List (S58)) (a0_3 : Int) (a0_4 : Int) (l1_0 : List (List (S41))) (l1_1 : List (S43)) (l1_2 : List (S58)) (a1_3 : Int) (a1_4 : Int) : Option (Bool) := if a0_3 = a1_3 then (if a0_4 = a1_4 then ((eqKinds.f k l0_2 l1_2).bind fun t364 => (if t364 = true then ((eqContribs.f k l0_1 l1_1).bind fun t365 => (if t365 = true then ((eqSchemes.f k l0_0 l1_0).bind fun t366 => (some t366)) else (some false))) else (some false))) else (some false)) else (some false)
set_option maxHeartbeats 8000000 in
set_option maxRecDepth 100000 in
theorem table_Same.calls (k : Nat) (A0_0 : Option Addr) (c0_0 : Nat) (l0_0 : List (List (S41))) (A0_1 : Option Addr) (c0_1 : Nat) (l0_1 : List (S43)) (A0_2 : Option Addr) (c0_2 : Nat) (l0_2 : List (S58)) (a0_3 : Int) (a0_4 : Int) (A1_0 : Option Addr) (c1_0 : Nat) (l1_0 : List (List (S41))) (A1_1 : Option Addr) (c1_1 : Nat) (l1_1 : List (S43)) (A1_2 : Option Addr) (c1_2 : Nat) (l1_2 : List (S58)) (a1_3 : Int) (a1_4 : Int) (r : Bool) (w : World) (hr0_0 : Kd.C (Kd.slice 52 k41) w A0_0 l0_0.length l0_0) (hc0_0 : l0_0.length ≤ c0_0) (hr0_1 : Kd.C k43 w A0_1 l0_1.length l0_1) (hc0_1 : l0_1.length ≤ c0_1) (hr0_2 : Kd.C k58 w A0_2 l0_2.length l0_2) (hc0_2 : l0_2.length ≤ c0_2) (hr1_0 : Kd.C (Kd.slice 52 k41) w A1_0 l1_0.length l1_0) (hc1_0 : l1_0.length ≤ c1_0) (hr1_1 : Kd.C k43 w A1_1 l1_1.length l1_1) (hc1_1 : l1_1.length ≤ c1_1) (hr1_2 : Kd.C k58 w A1_2 l1_2.length l1_2) (hc1_2 : l1_2.length ≤ c1_2) (hrt : r = true) (h : table_Same.f k l0_0 l0_1 l0_2 a0_3 a0_4 l1_0 l1_1 l1_2 a1_3 a1_4 = some r) :
    Calls Tryd.prog 13 #[.agg #[.slice A0_0 l0_0.length c0_0, .slice A0_1 l0_1.length c0_1, .slice A0_2 l0_2.length c0_2, .int .i64 a0_3, .int .i64 a0_4], .agg #[.slice A1_0 l1_0.length c1_0, .slice A1_1 l1_1.length c1_1, .slice A1_2 l1_2.length c1_2, .int .i64 a1_3, .int .i64 a1_4]] w fun e w' => e = .returned (.bool r) ∧ Below w.heap.size w w' := by
  have HRT := AM hrt
  clear hrt
  have hu26 := Tryd.underlying26
  have HR0_0 := AM hr0_0
  have HC0_0 := AM hc0_0
  clear hr0_0 hc0_0
  have HR0_1 := AM hr0_1
  have HC0_1 := AM hc0_1
  clear hr0_1 hc0_1
  have HR0_2 := AM hr0_2
  have HC0_2 := AM hc0_2
  clear hr0_2 hc0_2
  have HR1_0 := AM hr1_0
  have HC1_0 := AM hc1_0
  clear hr1_0 hc1_0
  have HR1_1 := AM hr1_1
  have HC1_1 := AM hc1_1
  clear hr1_1 hc1_1
  have HR1_2 := AM hr1_2
  have HC1_2 := AM hc1_2
  clear hr1_2 hc1_2
  have HB := AM (Below.refl w.heap.size w)
  have H : (if a0_3 = a1_3 then (if a0_4 = a1_4 then ((eqKinds.f k l0_2 l1_2).bind fun t364 => (if t364 = true then ((eqContribs.f k l0_1 l1_1).bind fun t365 => (if t365 = true then ((eqSchemes.f k l0_0 l1_0).bind fun t366 => (some t366)) else (some false))) else (some false))) else (some false)) else (some false)) = some r := h
  clear h
  by_cases c3 : a0_3 = a1_3
  rotate_left
  · rw [if_neg c3] at H
    have c3b0 : (a0_3 == a1_3) = false := beq_eq_false_iff_ne.mpr c3
    have c3b1 : (a0_3 != a1_3) = true := bne_iff_ne.mpr c3
    exact absurd (Option.some.inj H) (by rw [HRT.out]; decide)

  rw [if_pos c3] at H
  have c3b0 : (a0_3 == a1_3) = true := beq_iff_eq.mpr c3
  have c3b1 : (a0_3 != a1_3) = false := bne_eq_false_iff_eq.mpr c3
  clear c3
  by_cases c4 : a0_4 = a1_4
  rotate_left
  · rw [if_neg c4] at H
    have c4b0 : (a0_4 == a1_4) = false := beq_eq_false_iff_ne.mpr c4
    have c4b1 : (a0_4 != a1_4) = true := bne_iff_ne.mpr c4
    exact absurd (Option.some.inj H) (by rw [HRT.out]; decide)
  rw [if_pos c4] at H
  have c4b0 : (a0_4 == a1_4) = true := beq_iff_eq.mpr c4
  have c4b1 : (a0_4 != a1_4) = false := bne_eq_false_iff_eq.mpr c4
  clear c4
  replace H := Option.bind_eq_some_iff.mp H
  obtain ⟨t364, A50, H⟩ := H
  replace H : (if t364 = true then ((eqContribs.f k l0_1 l1_1).bind fun t365 => (if t365 = true then ((eqSchemes.f k l0_0 l1_0).bind fun t366 => (some t366)) else (some false))) else (some false)) = some r := H
  have A5 := AM A50
  clear A50
  by_cases c6 : t364 = true
  rotate_left
  · replace c6 := Bool.eq_false_iff.mpr c6
    subst c6
    have H1 : (some false) = some r := by rw [if_neg (show ¬ (false = true) by decide)] at H; exact H
    clear H
    have H := H1
    clear H1
    exact absurd (Option.some.inj H) (by rw [HRT.out]; decide)
  subst c6
  have H1 : ((eqContribs.f k l0_1 l1_1).bind fun t365 => (if t365 = true then ((eqSchemes.f k l0_0 l1_0).bind fun t366 => (some t366)) else (some false))) = some r := by rw [if_pos rfl] at H; exact H
  clear H
  have H := H1
  clear H1
  replace H := Option.bind_eq_some_iff.mp H
  obtain ⟨t365, A70, H⟩ := H
  replace H : (if t365 = true then ((eqSchemes.f k l0_0 l1_0).bind fun t366 => (some t366)) else (some false)) = some r := H
  have A7 := AM A70
  clear A70
  by_cases c8 : t365 = true
  rotate_left
  · replace c8 := Bool.eq_false_iff.mpr c8
    subst c8
    have H1 : (some false) = some r := by rw [if_neg (show ¬ (false = true) by decide)] at H; exact H
    clear H
    have H := H1
    clear H1
    exact absurd (Option.some.inj H) (by rw [HRT.out]; decide)
  subst c8
  have H1 : ((eqSchemes.f k l0_0 l1_0).bind fun t366 => (some t366)) = some r := by rw [if_pos rfl] at H; exact H
  clear H
  have H := H1
  clear H1
  replace H := Option.bind_eq_some_iff.mp H
  obtain ⟨t366, A90, H⟩ := H
  replace H : (some t366) = some r := H
  have A9 := AM A90
  clear A90
  obtain rfl := Option.some.inj H
  go_enter Tryd.func13, Tryd.ntmps13
  go_wp2_with (first | ((with_reducible refine gD (N := 2) rfl ?_); refine bE ?hg (N := 2) ?hd (cs := #[.slice A0_0 l0_0.length c0_0, .slice A0_1 l0_1.length c0_1, .slice A0_2 l0_2.length c0_2, .int .i64 a0_3, .int .i64 a0_4]) (t := 26) ?hr ?_; (case hd => rfl); (case hg => rfl); (case hr => first | (go_simp; done) | (go_simp; rfl)); intro gb362 hg w10 hbox hb; have n0_ := AM (bT bQ hb); have n1_ := AM (hbox); have n2_ := AM ((by rw [hg]; exact (bZ bQ) : w.heap.size ≤ gb362)); have n3_ := AM ((by rw [hg]; exact (bZ bQ) : w.heap.size ≤ gb362)); clear HB; have HB := n0_; have BK362 := n1_; have GW362 := n2_; have GE362 := n3_; clear n0_ n1_ n2_ n3_; clear hb hbox hg) | ((with_reducible refine gD (N := 3) rfl ?_); refine bE ?hg (N := 3) ?hd (cs := #[.slice A1_0 l1_0.length c1_0, .slice A1_1 l1_1.length c1_1, .slice A1_2 l1_2.length c1_2, .int .i64 a1_3, .int .i64 a1_4]) (t := 26) ?hr ?_; (case hd => rfl); (case hg => rfl); (case hr => first | (go_simp; done) | (go_simp; rfl)); intro gb363 hg w11 hbox hb; have n0_ := AM (kB (g := gb362) (o := .cells #[.slice A0_0 l0_0.length c0_0, .slice A0_1 l0_1.length c0_1, .slice A0_2 l0_2.length c0_2, .int .i64 a0_3, .int .i64 a0_4] 26 (0, 0)) (kW BK362) hb); have n1_ := AM (bT bQ hb); have n2_ := AM (hbox); have n3_ := AM ((by rw [hg]; exact (bZ bQ) : w.heap.size ≤ gb363)); have n4_ := AM ((by rw [hg]; exact (bZ bQ) : w.heap.size ≤ gb363)); have n5_ := AM ((by rw [hg]; exact Nat.ne_of_lt (blk_lt (g := gb362) (o := .cells #[.slice A0_0 l0_0.length c0_0, .slice A0_1 l0_1.length c0_1, .slice A0_2 l0_2.length c0_2, .int .i64 a0_3, .int .i64 a0_4] 26 (0, 0)) (kW BK362)) : gb362 ≠ gb363)); have n6_ := AM ((by rw [hg]; exact Nat.ne_of_gt (blk_lt (g := gb362) (o := .cells #[.slice A0_0 l0_0.length c0_0, .slice A0_1 l0_1.length c0_1, .slice A0_2 l0_2.length c0_2, .int .i64 a0_3, .int .i64 a0_4] 26 (0, 0)) (kW BK362)) : gb363 ≠ gb362)); clear BK362; clear HB; have BK362 := n0_; have HB := n1_; have BK363 := n2_; have GW363 := n3_; have GE363 := n4_; have NB362_363 := n5_; have NB363_362 := n6_; clear n0_ n1_ n2_ n3_ n4_ n5_ n6_; clear hb hbox hg; have hnb12 := NB362_363.out; have hnc12 := NB363_362.out; obtain ⟨_, _, _, _, _, _, _, _, _, _⟩ := bX5 BK362.out; obtain ⟨_, _, _, _, _, _, _, _, _, _⟩ := bX5 BK363.out) | (go_at_call 32; (with_reducible refine (eqKinds.calls k _ _ l0_2 _ _ l1_2 true _ ?side1 ?side2 ?side3 ?side4 (by first | rfl | exact HRT.out) A5.out).mono ?_); (case side1 => exact cQ HR0_2 HB); (case side2 => exact HC0_2.out); (case side3 => exact cQ HR1_2 HB); (case side4 => exact HC1_2.out); rintro e w' ⟨rfl, ⟨nd, rfl⟩⟩) | (go_at_call 33; (with_reducible refine (eqContribs.calls k _ _ l0_1 _ _ l1_1 true _ ?side1 ?side2 ?side3 ?side4 (by first | rfl | exact HRT.out) A7.out).mono ?_); (case side1 => repeat (first | exact (cB HR0_1.out bQ) | (with_reducible refine cA ?_ _) | (with_reducible refine cD ?_ _) | (with_reducible refine c1_ ?_))); (case side2 => exact HC0_1.out); (case side3 => repeat (first | exact (cB HR1_1.out bQ) | (with_reducible refine cA ?_ _) | (with_reducible refine cD ?_ _) | (with_reducible refine c1_ ?_))); (case side4 => exact HC1_1.out); rintro e w15 ⟨rfl, hb⟩; have n0_ := AM (kB (g := gb362) (o := .cells #[.slice A0_0 l0_0.length c0_0, .slice A0_1 l0_1.length c0_1, .slice A0_2 l0_2.length c0_2, .int .i64 a0_3, .int .i64 a0_4] 26 (0, 0)) (kW BK362) hb); have n1_ := AM (kB (g := gb363) (o := .cells #[.slice A1_0 l1_0.length c1_0, .slice A1_1 l1_1.length c1_1, .slice A1_2 l1_2.length c1_2, .int .i64 a1_3, .int .i64 a1_4] 26 (0, 0)) (kW BK363) hb); have n2_ := AM (bT bQ hb); clear BK362; clear BK363; clear HB; have BK362 := n0_; have BK363 := n1_; have HB := n2_; clear n0_ n1_ n2_; (try clear hb); (try clear hb2); (try clear hk); (try clear hi); obtain ⟨_, _, _, _, _, _, _, _, _, _⟩ := bX5 BK362.out; obtain ⟨_, _, _, _, _, _, _, _, _, _⟩ := bX5 BK363.out) | ((with_reducible refine gC (f := 34) rfl ?_); refine gL (some 39) rfl rfl Tryd.func34 (by kernel_rfl) rfl #[.slice A0_0 l0_0.length c0_0, .slice A1_0 l1_0.length c1_0, .func (.func 35) #[] #[]] rfl (by (try simp only [List.map_toArray, List.map_cons, List.map_nil]); first | done | rfl | (simp only [List.length_drop, List.length_take]; rfl)) ?_; (with_reducible refine (eqSchemes.calls k _ _ l0_0 _ _ l1_0 t366 _ ?side1 ?side2 ?side3 ?side4 (by first | rfl | exact HRT.out) A9.out).mono ?_); (case side1 => exact cQ HR0_0 HB); (case side2 => exact HC0_0.out); (case side3 => exact cQ HR1_0 HB); (case side4 => exact HC1_0.out); rintro e w' ⟨rfl, ⟨nd, rfl⟩⟩; refine ⟨_, rfl, ?_⟩))
  go_ret
  exact ⟨by first | rfl | (simp [errW_none, errW_some] <;> rfl) | (simp [*, errW_none, errW_some] <;> rfl), by repeat (first | (with_reducible first | exact HB.out | apply bA | apply bD | apply b1 | refine bS ?_ GE362.out | refine bS ?_ GE363.out) | exact HB.out)⟩
end Go.Proofs.YtdllkibfikcfbaaDoor.K
