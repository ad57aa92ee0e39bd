-- by a program of this session, over the kit's printer
import Derived.Test.YtdllkibfikcfbaaDoorKx0
import Derived.Test.YtdllkibfikcfbaaDoorKx1
namespace Go.Proofs.YtdllkibfikcfbaaDoor.K
open Go.RowKit Go.Proofs.YtdllkibfikcfbaaDoorW.PrintWords Go.Proofs.YtdllkibfikcfbaaDoorW.PrintLast Go.Proofs.YtdllkibfikcfbaaDoorW.PrintMore
attribute [local go_sem] max2_int min2_int max_two min_two max_three min_three max_four min_four   -- for this text's walks alone
set_option linter.unusedVariables false
set_option linter.unusedSimpArgs false

/-! ### table_schemes: function 23 -/
mutual
def table_schemes.j0 : Nat → Bool → List (List (S41)) → List (S43) → List (S58) → Int → Int → Option (Int)
  | 0, _, _, _, _, _, _ => none
  | k + 1, x17, x107000, x107001, x107002, x107003, x107004 => if x17 = true then (some 2) else (table_schemes.l0 k x107000 (x107000.length : Int) 0)
def table_schemes.l0 : Nat → List (List (S41)) → Int → Int → Option (Int)
  | 0, _, _, _ => none
  | k + 1, x19, x20, x21 => if x21 < x20 then (if 0 ≤ x21 then (if x21 < (x19.length : Int) then ((band_Check.f k (rd_L2 x19 x21)).bind fun t108 => (if t108 = 0 then (table_schemes.l1 k x19 x20 x21 (rd_L2 x19 x21) ((rd_L2 x19 x21).length : Int) 0) else (some t108))) else (none)) else (none)) else (some 0)
def table_schemes.l1 : Nat → List (List (S41)) → Int → Int → List (S41) → Int → Int → Option (Int)
  | 0, _, _, _, _, _, _ => none
  | k + 1, x19, x20, x21, x30, x31, x32 => if x32 < x31 then (if 0 ≤ x32 then (if x32 < (x30.length : Int) then (if ((rd_T41 x30 x32).f2) = 0 then (table_schemes.l1 k x19 x20 x21 x30 x31 (wrap64 (x32 + 1))) else (some 50)) else (none)) else (none)) else (table_schemes.l0 k x19 x20 (wrap64 (x21 + 1)))
end
def table_schemes.f (k : Nat) (l0_0 : List (List (S41))) (l0_1 : List (S43)) (l0_2 : List (S58)) (a0_3 : Int) (a0_4 : Int) : Option (Int) := if (l0_0.length : Int) = 0 then (table_schemes.j0 k true l0_0 l0_1 l0_2 a0_3 a0_4) else (table_schemes.j0 k (decide ((l0_0.length : Int) > 8)) l0_0 l0_1 l0_2 a0_3 a0_4)
set_option maxHeartbeats 8000000 in
set_option maxRecDepth 100000 in
theorem table_schemes.calls (k : Nat) (A0_0 : Option Addr) (c0_0 : Nat) (l0_0 : List (List (S41))) (A0_1 : Option Addr) (c0_1 : Nat) (l0_1 : List (S43)) (A0_2 : Option Addr) (c0_2 : Nat) (l0_2 : List (S58)) (a0_3 : Int) (a0_4 : Int) (r : Int) (w : World) (hr0_0 : Kd.C (Kd.slice 52 k41) w A0_0 l0_0.length l0_0) (hc0_0 : l0_0.length ≤ c0_0) (hr0_1 : Kd.C k43 w A0_1 l0_1.length l0_1) (hc0_1 : l0_1.length ≤ c0_1) (hr0_2 : Kd.C k58 w A0_2 l0_2.length l0_2) (hc0_2 : l0_2.length ≤ c0_2) (h : table_schemes.f k l0_0 l0_1 l0_2 a0_3 a0_4 = some r) :
    Calls Tryd.prog 22 #[.agg #[.slice A0_0 l0_0.length c0_0, .slice A0_1 l0_1.length c0_1, .slice A0_2 l0_2.length c0_2, .int .i64 a0_3, .int .i64 a0_4]] w fun e w' => e = .returned (.int .i64 r) ∧ Below w.heap.size w w' := by
  have hu26 := Tryd.underlying26
  have hu41 := Tryd.underlying52
  have HR0_0 := AM hr0_0
  have HC0_0 := AM hc0_0
  clear hr0_0 hc0_0
  have HR0_1 := AM hr0_1
  have HC0_1 := AM hc0_1
  clear hr0_1 hc0_1
  have HR0_2 := AM hr0_2
  have HC0_2 := AM hc0_2
  clear hr0_2 hc0_2
  have HB := AM (Below.refl w.heap.size w)
  have H : (if (l0_0.length : Int) = 0 then (table_schemes.j0 k true l0_0 l0_1 l0_2 a0_3 a0_4) else (table_schemes.j0 k (decide ((l0_0.length : Int) > 8)) l0_0 l0_1 l0_2 a0_3 a0_4)) = some r := h
  clear h
  have HC2 := AM H
  clear H
  go_enter Tryd.func22, Tryd.ntmps22
  go_upto_region 1 with (first | ((with_reducible refine gD (N := 1) rfl ?_); (try (refine gG (by rfl) ?_; dsimp only)); refine bE ?hg (N := 1) ?hd (cs := #[.slice A0_0 l0_0.length c0_0, .slice A0_1 l0_1.length c0_1, .slice A0_2 l0_2.length c0_2, .int .i64 a0_3, .int .i64 a0_4]) (t := 26) ?hr ?_; (case hd => rfl); (case hg => rfl); (case hr => first | (go_simp; done) | (go_simp; rfl)); intro gb106 hg w3 hbox hb; have n0_ := AM (bT bQ hb); have n1_ := AM (hbox); have n2_ := AM ((by rw [hg]; exact (bZ bQ) : w.heap.size ≤ gb106)); have n3_ := AM ((by rw [hg]; exact (bZ bQ) : w.heap.size ≤ gb106)); clear HB; have HB := n0_; have BK106 := n1_; have GW106 := n2_; have GE106 := n3_; clear n0_ n1_ n2_ n3_; clear hb hbox hg))
  (try simp only [Act.put, List.setIfInBounds_toArray, List.set_cons_zero, List.set_cons_succ])
  go_cut [17] (fun v17 wc => ∃ (kq : Nat) (x17_1 : Bool), v17 = .bool x17_1 ∧ Aside0 (table_schemes.j0 kq x17_1 l0_0 l0_1 l0_2 a0_3 a0_4 = some r) ∧ Aside0 (kq ≤ k) ∧ Aside0 (wc.heap[gb106]? = some (.cells #[(.slice A0_0 l0_0.length c0_0), (.slice A0_1 l0_1.length c0_1), (.slice A0_2 l0_2.length c0_2), .int .i64 a0_3, .int .i64 a0_4] 26 (0, 0))) ∧ Aside0 (Below w.heap.size w wc))
  case first =>
    have H := HC2.out
    clear HC2
    by_cases c4 : (l0_0.length : Int) = 0
    · rw [if_pos c4] at H
      have c4b0 : ((l0_0.length : Int) == 0) = true := beq_iff_eq.mpr c4
      have c4b1 : ((l0_0.length : Int) != 0) = false := bne_eq_false_iff_eq.mpr c4
      clear c4
      (first | rw [c4b0] | (simp only [i64_w, i32_w]; rw [c4b0]) | skip)
      have H' := AM H
      clear H
      obtain ⟨_, _, _, _, _, _, _, _, _, _⟩ := bX5 BK106.out
      go_wp2
      go_meet
      case rel => exact ⟨_, (true), (by first | rfl | (simp; done) | (simp [*]; done)), H', ⟨by first | omega | exact Nat.le_refl _⟩, ⟨by (with_reducible repeat (first | refine kD ?_ _ | refine k1_ ?_ | refine kA ?_ _)); exact BK106.out⟩, ⟨by repeat (first | (with_reducible first | exact HB.out | apply bA | apply bD | apply b1 | refine bS ?_ GE106.out) | exact HB.out)⟩⟩
    rw [if_neg c4] at H
    have c4b0 : ((l0_0.length : Int) == 0) = false := beq_eq_false_iff_ne.mpr c4
    have c4b1 : ((l0_0.length : Int) != 0) = true := bne_iff_ne.mpr c4
    have c4b2 : ¬ (l0_0 = []) := fun h_ => c4 (by rw [h_]; rfl)
    (first | rw [c4b0] | (simp only [i64_w, i32_w]; rw [c4b0]) | skip)
    have H' := AM H
    clear H
    obtain ⟨_, _, _, _, _, _, _, _, _, _⟩ := bX5 BK106.out
    go_wp2
    go_meet
    case rel => exact ⟨_, (decide ((l0_0.length : Int) > 8)), (by first | rfl | (simp; done) | (simp [*]; done)), H', ⟨by first | omega | exact Nat.le_refl _⟩, ⟨by (with_reducible repeat (first | refine kD ?_ _ | refine k1_ ?_ | refine kA ?_ _)); exact BK106.out⟩, ⟨by repeat (first | (with_reducible first | exact HB.out | apply bA | apply bD | apply b1 | refine bS ?_ GE106.out) | exact HB.out)⟩⟩
  case rest =>
    clear HC2
    obtain ⟨kq, x17_1, rfl, HA, HJ1, BK106, HB⟩ := hcut
    cases kq with
    | zero => exact absurd HA.out (by simp [table_schemes.j0])
    | succ kj1 =>
      have H := HA.out
      clear HA
      simp only [table_schemes.j0] at H
      by_cases c7 : x17_1 = true
      · subst c7
        have H1 : (some 2) = some r := by rw [if_pos rfl] at H; exact H
        clear H
        have H := H1
        clear H1
        obtain rfl := Option.some.inj H
        go_wp2
        go_ret
        exact ⟨by first | rfl | (simp [errW_none, errW_some] <;> rfl) | (simp [*, errW_none, errW_some] <;> rfl), by repeat (first | (with_reducible first | exact HB.out | apply bA | apply bD | apply b1 | refine bS ?_ GE106.out) | exact HB.out)⟩
      replace c7 := Bool.eq_false_iff.mpr c7
      subst c7
      have H1 : (table_schemes.l0 kj1 l0_0 (l0_0.length : Int) 0) = some r := by rw [if_neg (show ¬ (false = true) by decide)] at H; exact H
      clear H
      have H := H1
      clear H1
      have H' := AM H
      clear H
      obtain ⟨_, _, _, _, _, _, _, _, _, _⟩ := bX5 BK106.out
      go_wp2
      go_loopg [21] kj1 (fun kq v21 w' => ∃ (x21_2 : Int), v21 = .int .i64 x21_2 ∧ Aside0 (table_schemes.l0 kq l0_0 (l0_0.length : Int) x21_2 = some r) ∧ Aside0 (kq ≤ kj1) ∧ Aside0 (w'.heap[gb106]? = some (.cells #[(.slice A0_0 l0_0.length c0_0), (.slice A0_1 l0_1.length c0_1), (.slice A0_2 l0_2.length c0_2), .int .i64 a0_3, .int .i64 a0_4] 26 (0, 0))) ∧ Aside0 (Below w.heap.size w w'))
      case atStart => exact ⟨(0), (by first | rfl | (simp; done) | (simp [*]; done)), H', ⟨Nat.le_refl _⟩, ⟨by (with_reducible repeat (first | refine kD ?_ _ | refine k1_ ?_ | refine kA ?_ _)); exact BK106.out⟩, ⟨by repeat (first | (with_reducible first | exact HB.out | apply bA | apply bD | apply b1 | refine bS ?_ GE106.out) | exact HB.out)⟩⟩
      case round =>
        clear H'
        obtain ⟨x21_2, rfl, HA, HK2, BK106, HB⟩ := hrel
        cases gk with
        | zero => exact absurd HA.out (by simp [table_schemes.l0])
        | succ k2 =>
          have H := HA.out
          clear HA
          simp only [table_schemes.l0] at H
          by_cases c9 : x21_2 < (l0_0.length : Int)
          rotate_left
          · rw [if_neg c9] at H
            have c9b0 := decide_eq_false c9
            clear c9
            obtain rfl := Option.some.inj H
            go_wp2
            go_ret
            exact ⟨by first | rfl | (simp [errW_none, errW_some] <;> rfl) | (simp [*, errW_none, errW_some] <;> rfl), by repeat (first | (with_reducible first | exact HB.out | apply bA | apply bD | apply b1 | refine bS ?_ GE106.out) | exact HB.out)⟩

          rw [if_pos c9] at H
          have c9b0 := decide_eq_true c9
          clear c9
          by_cases c10 : 0 ≤ x21_2
          rotate_left
          · rw [if_neg c10] at H
            exact absurd H (by simp)
          rw [if_pos c10] at H
          have c10b0 := decide_eq_true c10
          clear c10
          by_cases c11 : x21_2 < (l0_0.length : Int)
          rotate_left
          · rw [if_neg c11] at H
            exact absurd H (by simp)
          rw [if_pos c11] at H
          have c11b0 := decide_eq_true c11
          clear c11
          replace H := Option.bind_eq_some_iff.mp H
          obtain ⟨t108, A120, H⟩ := H
          replace H : (if t108 = 0 then (table_schemes.l1 k2 l0_0 (l0_0.length : Int) x21_2 (rd_L2 l0_0 x21_2) ((rd_L2 l0_0 x21_2).length : Int) 0) else (some t108)) = some r := H
          have A12 := AM A120
          clear A120
          by_cases c13 : t108 = 0
          rotate_left
          · rw [if_neg c13] at H
            have c13b0 : (t108 == 0) = false := beq_eq_false_iff_ne.mpr c13
            have c13b1 : (t108 != 0) = true := bne_iff_ne.mpr c13
            obtain rfl := Option.some.inj H
            have p107 : 0 ≤ (x21_2 : Int) := of_decide_eq_true (by first | (with_reducible assumption) | assumption)
            have q107 : x21_2 < (l0_0.length : Int) := of_decide_eq_true (by first | (with_reducible assumption) | assumption)
            obtain ⟨ad107, A107_0, c107_0, e107, hx107_0, hl107_0, hi107_0⟩ := at_L2 HR0_0.out x21_2 p107 q107
            cases e107
            replace hx107_0 := (HB.out.cell (bL w _ hx107_0)).trans hx107_0
            have HR107_0 := AM hi107_0
            have HC107_0 := AM hl107_0
            clear hi107_0 hl107_0
            replace p107 := eq_true p107
            replace q107 := eq_true q107
            go_wp2_with (first | ((with_reducible refine gC (f := 37) rfl ?_); refine gL (some 26) rfl rfl Tryd.func37 (by kernel_rfl) rfl #[.slice A107_0 (rd_L2 l0_0 x21_2).length c107_0] rfl (by (try simp only [List.map_toArray, List.map_cons, List.map_nil]); first | done | rfl | (simp only [List.length_drop, List.length_take]; rfl)) ?_; (with_reducible refine (band_Check.calls k2 _ _ (rd_L2 l0_0 x21_2) t108 _ ?side1 ?side2 A12.out).mono ?_); (case side1 => exact cQ HR107_0 HB); (case side2 => exact HC107_0.out); rintro e w25 ⟨rfl, hb⟩; refine ⟨_, rfl, ?_⟩; have n0_ := AM (kB (g := gb106) (o := .cells #[.slice (some ad107) l0_0.length c0_0, .slice A0_1 l0_1.length c0_1, .slice A0_2 l0_2.length c0_2, .int .i64 a0_3, .int .i64 a0_4] 26 (0, 0)) (kW BK106) hb); have n1_ := AM (bT bQ hb); clear BK106; clear HB; have BK106 := n0_; have HB := n1_; clear n0_ n1_; (try clear hb); (try clear hb2); (try clear hk); (try clear hi)))
            go_ret
            exact ⟨by first | rfl | (simp [errW_none, errW_some] <;> rfl) | (simp [*, errW_none, errW_some] <;> rfl), by repeat (first | (with_reducible first | exact HB.out | apply bA | apply bD | apply b1 | refine bS ?_ GE106.out) | exact HB.out)⟩
          rw [if_pos c13] at H
          have c13b0 : (t108 == 0) = true := beq_iff_eq.mpr c13
          have c13b1 : (t108 != 0) = false := bne_eq_false_iff_eq.mpr c13
          clear c13
          have H' := AM H
          clear H
          have p107 : 0 ≤ (x21_2 : Int) := of_decide_eq_true (by first | (with_reducible assumption) | assumption)
          have q107 : x21_2 < (l0_0.length : Int) := of_decide_eq_true (by first | (with_reducible assumption) | assumption)
          obtain ⟨ad107, A107_0, c107_0, e107, hx107_0, hl107_0, hi107_0⟩ := at_L2 HR0_0.out x21_2 p107 q107
          cases e107
          replace hx107_0 := (HB.out.cell (bL w _ hx107_0)).trans hx107_0
          have HR107_0 := AM hi107_0
          have HC107_0 := AM hl107_0
          clear hi107_0 hl107_0
          replace p107 := eq_true p107
          replace q107 := eq_true q107
          go_wp2_with (first | ((with_reducible refine gC (f := 37) rfl ?_); refine gL (some 26) rfl rfl Tryd.func37 (by kernel_rfl) rfl #[.slice A107_0 (rd_L2 l0_0 x21_2).length c107_0] rfl (by (try simp only [List.map_toArray, List.map_cons, List.map_nil]); first | done | rfl | (simp only [List.length_drop, List.length_take]; rfl)) ?_; (with_reducible refine (band_Check.calls k2 _ _ (rd_L2 l0_0 x21_2) t108 _ ?side1 ?side2 A12.out).mono ?_); (case side1 => exact cQ HR107_0 HB); (case side2 => exact HC107_0.out); rintro e w14 ⟨rfl, hb⟩; refine ⟨_, rfl, ?_⟩; have n0_ := AM (kB (g := gb106) (o := .cells #[.slice (some ad107) l0_0.length c0_0, .slice A0_1 l0_1.length c0_1, .slice A0_2 l0_2.length c0_2, .int .i64 a0_3, .int .i64 a0_4] 26 (0, 0)) (kW BK106) hb); have n1_ := AM (bT bQ hb); clear BK106; clear HB; have BK106 := n0_; have HB := n1_; clear n0_ n1_; (try clear hb); (try clear hb2); (try clear hk); (try clear hi)))
          go_loopg [32] k2 (fun kq v32 w' => ∃ (x32_3 : Int), v32 = .int .i64 x32_3 ∧ Aside0 (table_schemes.l1 kq l0_0 (l0_0.length : Int) x21_2 (rd_L2 l0_0 x21_2) ((rd_L2 l0_0 x21_2).length : Int) x32_3 = some r) ∧ Aside0 (kq ≤ k2) ∧ Aside0 (w'.heap[gb106]? = some (.cells #[(.slice (some ad107) l0_0.length c0_0), (.slice A0_1 l0_1.length c0_1), (.slice A0_2 l0_2.length c0_2), .int .i64 a0_3, .int .i64 a0_4] 26 (0, 0))) ∧ Aside0 (Below w.heap.size w w'))
          case atStart => exact ⟨(0), (by first | rfl | (simp; done) | (simp [*]; done)), H', ⟨Nat.le_refl _⟩, ⟨by (with_reducible repeat (first | refine kD ?_ _ | refine k1_ ?_ | refine kA ?_ _)); exact BK106.out⟩, ⟨by repeat (first | (with_reducible first | exact HB.out | apply bA | apply bD | apply b1 | refine bS ?_ GE106.out) | exact HB.out)⟩⟩
          case round =>
            clear H'
            obtain ⟨x32_3, rfl, HA, HK3, BK106, HB⟩ := hrel
            cases gk with
            | zero => exact absurd HA.out (by simp [table_schemes.l1])
            | succ k3 =>
              have H := HA.out
              clear HA
              simp only [table_schemes.l1] at H
              by_cases c15 : x32_3 < ((rd_L2 l0_0 x21_2).length : Int)
              rotate_left
              · rw [if_neg c15] at H
                have c15b0 := decide_eq_false c15
                clear c15
                have H' := AM H
                clear H
                go_wp2
                go_roundg k3
                case measure => have := HJ1.out; have := HK2.out; have := HK3.out; omega
                case rel => exact ⟨(wrap64 (x21_2 + 1)), (by first | rfl | (simp; done) | (simp [*]; done)), H', ⟨by have := HJ1.out; have := HK2.out; have := HK3.out; omega⟩, ⟨by (with_reducible repeat (first | refine kD ?_ _ | refine k1_ ?_ | refine kA ?_ _)); exact BK106.out⟩, ⟨by repeat (first | (with_reducible first | exact HB.out | apply bA | apply bD | apply b1 | refine bS ?_ GE106.out) | exact HB.out)⟩⟩
              rw [if_pos c15] at H
              have c15b0 := decide_eq_true c15
              clear c15
              by_cases c16 : 0 ≤ x32_3
              rotate_left
              · rw [if_neg c16] at H
                exact absurd H (by simp)
              rw [if_pos c16] at H
              have c16b0 := decide_eq_true c16
              clear c16
              by_cases c17 : x32_3 < ((rd_L2 l0_0 x21_2).length : Int)
              rotate_left
              · rw [if_neg c17] at H
                exact absurd H (by simp)
              rw [if_pos c17] at H
              have c17b0 := decide_eq_true c17
              clear c17
              by_cases c18 : ((rd_T41 (rd_L2 l0_0 x21_2) x32_3).f2) = 0
              rotate_left
              · rw [if_neg c18] at H
                have c18b0 : (((rd_T41 (rd_L2 l0_0 x21_2) x32_3).f2) == 0) = false := beq_eq_false_iff_ne.mpr c18
                have c18b1 : (((rd_T41 (rd_L2 l0_0 x21_2) x32_3).f2) != 0) = true := bne_iff_ne.mpr c18
                obtain rfl := Option.some.inj H
                have p109 : 0 ≤ (x32_3 : Int) := of_decide_eq_true (by first | (with_reducible assumption) | assumption)
                have q109 : x32_3 < ((rd_L2 l0_0 x21_2).length : Int) := of_decide_eq_true (by first | (with_reducible assumption) | assumption)
                obtain ⟨ad109, e109, hx109_0, hx109_1, hx109_2⟩ := at_T41 HR107_0.out x32_3 p109 q109
                cases e109
                replace hx109_0 := (HB.out.cell (bL w _ hx109_0)).trans hx109_0
                replace hx109_1 := (HB.out.cell (bL w _ hx109_1)).trans hx109_1
                replace hx109_2 := (HB.out.cell (bL w _ hx109_2)).trans hx109_2
                replace p109 := eq_true p109
                replace q109 := eq_true q109
                go_wp2_with (first | ((with_reducible refine gD (N := 7) rfl ?_); (try (refine gG (by rfl) ?_; dsimp only)); refine bE ?hg (N := 7) ?hd (cs := #[.int .i64 0, .int .i64 0, .int .i64 0]) (t := 52) ?hr ?_; (case hd => rfl); (case hg => rfl); (case hr => first | (go_simp; done) | (go_simp; rfl)); intro gb110 hg w22 hbox hb; have n0_ := AM (kB (g := gb106) (o := .cells #[.slice (some ad107) l0_0.length c0_0, .slice A0_1 l0_1.length c0_1, .slice A0_2 l0_2.length c0_2, .int .i64 a0_3, .int .i64 a0_4] 26 (0, 0)) (kW BK106) hb); have n1_ := AM (bT bQ hb); have n2_ := AM (hbox); have n3_ := AM ((by rw [hg]; exact (bZ bQ) : w.heap.size ≤ gb110)); have n4_ := AM ((by rw [hg]; exact (bZ bQ) : w.heap.size ≤ gb110)); have n5_ := AM ((by rw [hg]; exact Nat.ne_of_lt (blk_lt (g := gb106) (o := .cells #[.slice (some ad107) l0_0.length c0_0, .slice A0_1 l0_1.length c0_1, .slice A0_2 l0_2.length c0_2, .int .i64 a0_3, .int .i64 a0_4] 26 (0, 0)) (kW BK106)) : gb106 ≠ gb110)); have n6_ := AM ((by rw [hg]; exact Nat.ne_of_gt (blk_lt (g := gb106) (o := .cells #[.slice (some ad107) l0_0.length c0_0, .slice A0_1 l0_1.length c0_1, .slice A0_2 l0_2.length c0_2, .int .i64 a0_3, .int .i64 a0_4] 26 (0, 0)) (kW BK106)) : gb110 ≠ gb106)); clear BK106; clear HB; have BK106 := n0_; have HB := n1_; have BK110 := n2_; have GW110 := n3_; have GE110 := n4_; have NB106_110 := n5_; have NB110_106 := n6_; clear n0_ n1_ n2_ n3_ n4_ n5_ n6_; clear hb hbox hg; have hnb23 := NB110_106.out; have hnc23 := NB106_110.out; obtain ⟨_, _, _, _, _, _⟩ := bX3 BK110.out))
                go_ret
                exact ⟨by first | rfl | (simp [errW_none, errW_some] <;> rfl) | (simp [*, errW_none, errW_some] <;> rfl), by repeat (first | (with_reducible first | exact HB.out | apply bA | apply bD | apply b1 | refine bS ?_ GE106.out | refine bS ?_ GE110.out) | exact HB.out)⟩
              rw [if_pos c18] at H
              have c18b0 : (((rd_T41 (rd_L2 l0_0 x21_2) x32_3).f2) == 0) = true := beq_iff_eq.mpr c18
              have c18b1 : (((rd_T41 (rd_L2 l0_0 x21_2) x32_3).f2) != 0) = false := bne_eq_false_iff_eq.mpr c18
              clear c18
              have H' := AM H
              clear H
              have p109 : 0 ≤ (x32_3 : Int) := of_decide_eq_true (by first | (with_reducible assumption) | assumption)
              have q109 : x32_3 < ((rd_L2 l0_0 x21_2).length : Int) := of_decide_eq_true (by first | (with_reducible assumption) | assumption)
              obtain ⟨ad109, e109, hx109_0, hx109_1, hx109_2⟩ := at_T41 HR107_0.out x32_3 p109 q109
              cases e109
              replace hx109_0 := (HB.out.cell (bL w _ hx109_0)).trans hx109_0
              replace hx109_1 := (HB.out.cell (bL w _ hx109_1)).trans hx109_1
              replace hx109_2 := (HB.out.cell (bL w _ hx109_2)).trans hx109_2
              replace p109 := eq_true p109
              replace q109 := eq_true q109
              go_wp2_with (first | ((with_reducible refine gD (N := 7) rfl ?_); (try (refine gG (by rfl) ?_; dsimp only)); refine bE ?hg (N := 7) ?hd (cs := #[.int .i64 0, .int .i64 0, .int .i64 0]) (t := 52) ?hr ?_; (case hd => rfl); (case hg => rfl); (case hr => first | (go_simp; done) | (go_simp; rfl)); intro gb110 hg w19 hbox hb; have n0_ := AM (kB (g := gb106) (o := .cells #[.slice (some ad107) l0_0.length c0_0, .slice A0_1 l0_1.length c0_1, .slice A0_2 l0_2.length c0_2, .int .i64 a0_3, .int .i64 a0_4] 26 (0, 0)) (kW BK106) hb); have n1_ := AM (bT bQ hb); have n2_ := AM (hbox); have n3_ := AM ((by rw [hg]; exact (bZ bQ) : w.heap.size ≤ gb110)); have n4_ := AM ((by rw [hg]; exact (bZ bQ) : w.heap.size ≤ gb110)); have n5_ := AM ((by rw [hg]; exact Nat.ne_of_lt (blk_lt (g := gb106) (o := .cells #[.slice (some ad107) l0_0.length c0_0, .slice A0_1 l0_1.length c0_1, .slice A0_2 l0_2.length c0_2, .int .i64 a0_3, .int .i64 a0_4] 26 (0, 0)) (kW BK106)) : gb106 ≠ gb110)); have n6_ := AM ((by rw [hg]; exact Nat.ne_of_gt (blk_lt (g := gb106) (o := .cells #[.slice (some ad107) l0_0.length c0_0, .slice A0_1 l0_1.length c0_1, .slice A0_2 l0_2.length c0_2, .int .i64 a0_3, .int .i64 a0_4] 26 (0, 0)) (kW BK106)) : gb110 ≠ gb106)); clear BK106; clear HB; have BK106 := n0_; have HB := n1_; have BK110 := n2_; have GW110 := n3_; have GE110 := n4_; have NB106_110 := n5_; have NB110_106 := n6_; clear n0_ n1_ n2_ n3_ n4_ n5_ n6_; clear hb hbox hg; have hnb20 := NB110_106.out; have hnc20 := NB106_110.out; obtain ⟨_, _, _, _, _, _⟩ := bX3 BK110.out))
              go_roundg k3
              case measure => have := HJ1.out; have := HK2.out; have := HK3.out; omega
              case rel => exact ⟨(wrap64 (x32_3 + 1)), (by first | rfl | (simp; done) | (simp [*]; done)), H', ⟨by have := HJ1.out; have := HK2.out; have := HK3.out; omega⟩, ⟨by (with_reducible repeat (first | refine kD ?_ _ | refine k1_ ?_ | refine kA ?_ _)); refine kF ?_ NB106_110.out _; (with_reducible repeat (first | refine kD ?_ _ | refine k1_ ?_ | refine kA ?_ _)); refine kF ?_ NB106_110.out _; (with_reducible repeat (first | refine kD ?_ _ | refine k1_ ?_ | refine kA ?_ _)); refine kF ?_ NB106_110.out _; (with_reducible repeat (first | refine kD ?_ _ | refine k1_ ?_ | refine kA ?_ _)); exact BK106.out⟩, ⟨by repeat (first | (with_reducible first | exact HB.out | apply bA | apply bD | apply b1 | refine bS ?_ GE106.out | refine bS ?_ GE110.out) | exact HB.out)⟩⟩
/-! ### word_Name: function 33 -/
mutual
def word_Name.j0 : Nat → ByteArray → Bool → Option (Bool)
  | 0, _, _ => none
  | k + 1, x0, x12 => if x12 = true then (some false) else (word_Name.l0 k x0 (x0.size : Int) 0)
def word_Name.l0 : Nat → ByteArray → Int → Int → Option (Bool)
  | 0, _, _, _ => none
  | k + 1, x0, x14, x15 => if x15 < x14 then (if 0 ≤ x15 then (if x15 < (x0.size : Int) then (if (bt x0 x15) ≥ 97 then (if ((bt x0 x15) ≤ 122) then (word_Name.l0 k x0 x14 (wrap64 (x15 + 1))) else (if x15 = 0 then (some false) else (if (bt x0 x15) < 48 then (if (bt x0 x15) = 45 then (word_Name.l0 k x0 x14 (wrap64 (x15 + 1))) else (some false)) else (if (bt x0 x15) > 57 then (if (bt x0 x15) = 45 then (word_Name.l0 k x0 x14 (wrap64 (x15 + 1))) else (some false)) else (word_Name.l0 k x0 x14 (wrap64 (x15 + 1))))))) else (if x15 = 0 then (some false) else (if (bt x0 x15) < 48 then (if (bt x0 x15) = 45 then (word_Name.l0 k x0 x14 (wrap64 (x15 + 1))) else (some false)) else (if (bt x0 x15) > 57 then (if (bt x0 x15) = 45 then (word_Name.l0 k x0 x14 (wrap64 (x15 + 1))) else (some false)) else (word_Name.l0 k x0 x14 (wrap64 (x15 + 1))))))) else (none)) else (none)) else (some true)
end
def word_Name.f (k : Nat) (a0 : ByteArray) : Option (Bool) := if a0.toList = ([] : List UInt8) then (word_Name.j0 k a0 true) else (word_Name.j0 k a0 (decide ((a0.size : Int) > 16)))
set_option maxHeartbeats 8000000 in
set_option maxRecDepth 100000 in
theorem word_Name.calls (k : Nat) (a0 : ByteArray) (r : Bool) (w : World) (h : word_Name.f k a0 = some r) :
    Calls Tryd.prog 38 #[.string a0] w fun e w' => e = .returned (.bool r) ∧ Drawn0 w w' := by
  have H : (if a0.toList = ([] : List UInt8) then (word_Name.j0 k a0 true) else (word_Name.j0 k a0 (decide ((a0.size : Int) > 16)))) = some r := h
  clear h
  have HC2 := AM H
  clear H
  go_enter Tryd.func38, Tryd.ntmps38
  go_upto_region 1 with (fail)
  go_cut [12] (fun v12 wc => ∃ (kq : Nat) (x12_1 : Bool), v12 = .bool x12_1 ∧ Aside0 (word_Name.j0 kq a0 x12_1 = some r) ∧ Aside0 (kq ≤ k) ∧ Drawn0 w wc)
  case first =>
    have H := HC2.out
    clear HC2
    by_cases c3 : a0.toList = ([] : List UInt8)
    · rw [if_pos c3] at H
      have c3b0 : (a0.toList == ([] : List UInt8)) = true := beq_iff_eq.mpr c3
      have c3b1 : (a0.toList != ([] : List UInt8)) = false := bne_eq_false_iff_eq.mpr c3
      clear c3
      (first | rw [c3b0] | (simp only [i64_w, i32_w]; rw [c3b0]) | skip)
      have H' := AM H
      clear H
      go_wp2
      go_meet
      case rel => exact ⟨_, (true), (by first | rfl | (simp; done) | (simp [*]; done)), H', ⟨by first | omega | exact Nat.le_refl _⟩, by repeat (first | exact Drawn0.refl _ | apply Drawn0.step)⟩
    rw [if_neg c3] at H
    have c3b0 : (a0.toList == ([] : List UInt8)) = false := beq_eq_false_iff_ne.mpr c3
    have c3b1 : (a0.toList != ([] : List UInt8)) = true := bne_iff_ne.mpr c3
    (first | rw [c3b0] | (simp only [i64_w, i32_w]; rw [c3b0]) | skip)
    have H' := AM H
    clear H
    go_wp2
    go_meet
    case rel => exact ⟨_, (decide ((a0.size : Int) > 16)), (by first | rfl | (simp; done) | (simp [*]; done)), H', ⟨by first | omega | exact Nat.le_refl _⟩, by repeat (first | exact Drawn0.refl _ | apply Drawn0.step)⟩
  case rest =>
    clear HC2
    obtain ⟨kq, x12_1, rfl, HA, HJ1, ⟨mc1, rfl⟩⟩ := hcut
    cases kq with
    | zero => exact absurd HA.out (by simp [word_Name.j0])
    | succ kj1 =>
      have H := HA.out
      clear HA
      simp only [word_Name.j0] at H
      by_cases c4 : x12_1 = true
      · subst c4
        have H1 : (some false) = some r := by rw [if_pos rfl] at H; exact H
        clear H
        have H := H1
        clear H1
        obtain rfl := Option.some.inj H
        go_wp2
        go_ret
        exact ⟨by first | rfl | (simp; done) | (simp [*]; done), by repeat (first | exact Drawn0.refl _ | apply Drawn0.step)⟩
      replace c4 := Bool.eq_false_iff.mpr c4
      subst c4
      have H1 : (word_Name.l0 kj1 a0 (a0.size : Int) 0) = some r := by rw [if_neg (show ¬ (false = true) by decide)] at H; exact H
      clear H
      have H := H1
      clear H1
      have H' := AM H
      clear H
      go_wp2
      go_loopg [15] kj1 (fun kq v15 w' => ∃ (x15_2 : Int), v15 = .int .i64 x15_2 ∧ Aside0 (word_Name.l0 kq a0 (a0.size : Int) x15_2 = some r) ∧ Aside0 (kq ≤ kj1) ∧ Drawn0 w w')
      case atStart => exact ⟨(0), (by first | rfl | (simp; done) | (simp [*]; done)), H', ⟨Nat.le_refl _⟩, by repeat (first | exact Drawn0.refl _ | apply Drawn0.step)⟩
      case round =>
        clear H'
        obtain ⟨x15_2, rfl, HA, HK2, ⟨m2, rfl⟩⟩ := hrel
        cases gk with
        | zero => exact absurd HA.out (by simp [word_Name.l0])
        | succ k2 =>
          have H := HA.out
          clear HA
          simp only [word_Name.l0] at H
          by_cases c5 : x15_2 < (a0.size : Int)
          rotate_left
          · rw [if_neg c5] at H
            have c5b0 := decide_eq_false c5
            clear c5
            obtain rfl := Option.some.inj H
            go_wp2
            go_ret
            exact ⟨by first | rfl | (simp; done) | (simp [*]; done), by repeat (first | exact Drawn0.refl _ | apply Drawn0.step)⟩

          rw [if_pos c5] at H
          have c5b0 := decide_eq_true c5
          clear c5
          by_cases c6 : 0 ≤ x15_2
          rotate_left
          · rw [if_neg c6] at H
            exact absurd H (by simp)
          rw [if_pos c6] at H
          have c6b0 := decide_eq_true c6
          clear c6
          by_cases c7 : x15_2 < (a0.size : Int)
          rotate_left
          · rw [if_neg c7] at H
            exact absurd H (by simp)
          rw [if_pos c7] at H
          have c7b0 := decide_eq_true c7
          clear c7
          by_cases c9 : (bt a0 x15_2) ≥ 97
          rotate_left
          · rw [if_neg c9] at H
            have c9b0 := decide_eq_false c9
            clear c9
            by_cases c16 : x15_2 = 0
            · rw [if_pos c16] at H
              have c16b0 : (x15_2 == 0) = true := beq_iff_eq.mpr c16
              have c16b1 : (x15_2 != 0) = false := bne_eq_false_iff_eq.mpr c16
              clear c16
              obtain rfl := Option.some.inj H
              have p8 : 0 ≤ (x15_2 : Int) := of_decide_eq_true (by first | (with_reducible assumption) | assumption)
              have q8 : x15_2 < (a0.size : Int) := of_decide_eq_true (by first | (with_reducible assumption) | assumption)
              have hx8 := bt_at a0 x15_2
              replace p8 := eq_true p8
              replace q8 := eq_true q8
              go_wp2
              go_ret
              exact ⟨by first | rfl | (simp; done) | (simp [*]; done), by repeat (first | exact Drawn0.refl _ | apply Drawn0.step)⟩
            rw [if_neg c16] at H
            have c16b0 : (x15_2 == 0) = false := beq_eq_false_iff_ne.mpr c16
            have c16b1 : (x15_2 != 0) = true := bne_iff_ne.mpr c16
            by_cases c17 : (bt a0 x15_2) < 48
            · rw [if_pos c17] at H
              have c17b0 := decide_eq_true c17
              clear c17
              by_cases c18 : (bt a0 x15_2) = 45
              rotate_left
              · rw [if_neg c18] at H
                have c18b0 : ((bt a0 x15_2) == 45) = false := beq_eq_false_iff_ne.mpr c18
                have c18b1 : ((bt a0 x15_2) != 45) = true := bne_iff_ne.mpr c18
                obtain rfl := Option.some.inj H
                have p8 : 0 ≤ (x15_2 : Int) := of_decide_eq_true (by first | (with_reducible assumption) | assumption)
                have q8 : x15_2 < (a0.size : Int) := of_decide_eq_true (by first | (with_reducible assumption) | assumption)
                have hx8 := bt_at a0 x15_2
                replace p8 := eq_true p8
                replace q8 := eq_true q8
                go_wp2
                go_ret
                exact ⟨by first | rfl | (simp; done) | (simp [*]; done), by repeat (first | exact Drawn0.refl _ | apply Drawn0.step)⟩
              rw [if_pos c18] at H
              have c18b0 : ((bt a0 x15_2) == 45) = true := beq_iff_eq.mpr c18
              have c18b1 : ((bt a0 x15_2) != 45) = false := bne_eq_false_iff_eq.mpr c18
              clear c18
              have H' := AM H
              clear H
              have p8 : 0 ≤ (x15_2 : Int) := of_decide_eq_true (by first | (with_reducible assumption) | assumption)
              have q8 : x15_2 < (a0.size : Int) := of_decide_eq_true (by first | (with_reducible assumption) | assumption)
              have hx8 := bt_at a0 x15_2
              replace p8 := eq_true p8
              replace q8 := eq_true q8
              go_wp2
              go_roundg k2
              case measure => have := HJ1.out; have := HK2.out; omega
              case rel => exact ⟨(wrap64 (x15_2 + 1)), (by first | rfl | (simp; done) | (simp [*]; done)), H', ⟨by have := HJ1.out; have := HK2.out; omega⟩, by repeat (first | exact Drawn0.refl _ | apply Drawn0.step)⟩
            rw [if_neg c17] at H
            have c17b0 := decide_eq_false c17
            clear c17
            by_cases c19 : (bt a0 x15_2) > 57
            rotate_left
            · rw [if_neg c19] at H
              have c19b0 := decide_eq_false c19
              clear c19
              have H' := AM H
              clear H
              have p8 : 0 ≤ (x15_2 : Int) := of_decide_eq_true (by first | (with_reducible assumption) | assumption)
              have q8 : x15_2 < (a0.size : Int) := of_decide_eq_true (by first | (with_reducible assumption) | assumption)
              have hx8 := bt_at a0 x15_2
              replace p8 := eq_true p8
              replace q8 := eq_true q8
              go_wp2
              go_roundg k2
              case measure => have := HJ1.out; have := HK2.out; omega
              case rel => exact ⟨(wrap64 (x15_2 + 1)), (by first | rfl | (simp; done) | (simp [*]; done)), H', ⟨by have := HJ1.out; have := HK2.out; omega⟩, by repeat (first | exact Drawn0.refl _ | apply Drawn0.step)⟩
            rw [if_pos c19] at H
            have c19b0 := decide_eq_true c19
            clear c19
            by_cases c20 : (bt a0 x15_2) = 45
            rotate_left
            · rw [if_neg c20] at H
              have c20b0 : ((bt a0 x15_2) == 45) = false := beq_eq_false_iff_ne.mpr c20
              have c20b1 : ((bt a0 x15_2) != 45) = true := bne_iff_ne.mpr c20
              obtain rfl := Option.some.inj H
              have p8 : 0 ≤ (x15_2 : Int) := of_decide_eq_true (by first | (with_reducible assumption) | assumption)
              have q8 : x15_2 < (a0.size : Int) := of_decide_eq_true (by first | (with_reducible assumption) | assumption)
              have hx8 := bt_at a0 x15_2
              replace p8 := eq_true p8
              replace q8 := eq_true q8
              go_wp2
              go_ret
              exact ⟨by first | rfl | (simp; done) | (simp [*]; done), by repeat (first | exact Drawn0.refl _ | apply Drawn0.step)⟩
            rw [if_pos c20] at H
            have c20b0 : ((bt a0 x15_2) == 45) = true := beq_iff_eq.mpr c20
            have c20b1 : ((bt a0 x15_2) != 45) = false := bne_eq_false_iff_eq.mpr c20
            clear c20
            have H' := AM H
            clear H
            have p8 : 0 ≤ (x15_2 : Int) := of_decide_eq_true (by first | (with_reducible assumption) | assumption)
            have q8 : x15_2 < (a0.size : Int) := of_decide_eq_true (by first | (with_reducible assumption) | assumption)
            have hx8 := bt_at a0 x15_2
            replace p8 := eq_true p8
            replace q8 := eq_true q8
            go_wp2
            go_roundg k2
            case measure => have := HJ1.out; have := HK2.out; omega
            case rel => exact ⟨(wrap64 (x15_2 + 1)), (by first | rfl | (simp; done) | (simp [*]; done)), H', ⟨by have := HJ1.out; have := HK2.out; omega⟩, by repeat (first | exact Drawn0.refl _ | apply Drawn0.step)⟩
          rw [if_pos c9] at H
          have c9b0 := decide_eq_true c9
          clear c9
          by_cases c10 : ((bt a0 x15_2) ≤ 122)
          · rw [if_pos c10] at H
            have c10b0 := decide_eq_true c10
            clear c10
            have H' := AM H
            clear H
            have p8 : 0 ≤ (x15_2 : Int) := of_decide_eq_true (by first | (with_reducible assumption) | assumption)
            have q8 : x15_2 < (a0.size : Int) := of_decide_eq_true (by first | (with_reducible assumption) | assumption)
            have hx8 := bt_at a0 x15_2
            replace p8 := eq_true p8
            replace q8 := eq_true q8
            go_wp2
            go_roundg k2
            case measure => have := HJ1.out; have := HK2.out; omega
            case rel => exact ⟨(wrap64 (x15_2 + 1)), (by first | rfl | (simp; done) | (simp [*]; done)), H', ⟨by have := HJ1.out; have := HK2.out; omega⟩, by repeat (first | exact Drawn0.refl _ | apply Drawn0.step)⟩
          rw [if_neg c10] at H
          have c10b0 := decide_eq_false c10
          clear c10
          by_cases c11 : x15_2 = 0
          · rw [if_pos c11] at H
            have c11b0 : (x15_2 == 0) = true := beq_iff_eq.mpr c11
            have c11b1 : (x15_2 != 0) = false := bne_eq_false_iff_eq.mpr c11
            clear c11
            obtain rfl := Option.some.inj H
            have p8 : 0 ≤ (x15_2 : Int) := of_decide_eq_true (by first | (with_reducible assumption) | assumption)
            have q8 : x15_2 < (a0.size : Int) := of_decide_eq_true (by first | (with_reducible assumption) | assumption)
            have hx8 := bt_at a0 x15_2
            replace p8 := eq_true p8
            replace q8 := eq_true q8
            go_wp2
            go_ret
            exact ⟨by first | rfl | (simp; done) | (simp [*]; done), by repeat (first | exact Drawn0.refl _ | apply Drawn0.step)⟩
          rw [if_neg c11] at H
          have c11b0 : (x15_2 == 0) = false := beq_eq_false_iff_ne.mpr c11
          have c11b1 : (x15_2 != 0) = true := bne_iff_ne.mpr c11
          by_cases c12 : (bt a0 x15_2) < 48
          · rw [if_pos c12] at H
            have c12b0 := decide_eq_true c12
            clear c12
            by_cases c13 : (bt a0 x15_2) = 45
            rotate_left
            · rw [if_neg c13] at H
              have c13b0 : ((bt a0 x15_2) == 45) = false := beq_eq_false_iff_ne.mpr c13
              have c13b1 : ((bt a0 x15_2) != 45) = true := bne_iff_ne.mpr c13
              obtain rfl := Option.some.inj H
              have p8 : 0 ≤ (x15_2 : Int) := of_decide_eq_true (by first | (with_reducible assumption) | assumption)
              have q8 : x15_2 < (a0.size : Int) := of_decide_eq_true (by first | (with_reducible assumption) | assumption)
              have hx8 := bt_at a0 x15_2
              replace p8 := eq_true p8
              replace q8 := eq_true q8
              go_wp2
              go_ret
              exact ⟨by first | rfl | (simp; done) | (simp [*]; done), by repeat (first | exact Drawn0.refl _ | apply Drawn0.step)⟩
            rw [if_pos c13] at H
            have c13b0 : ((bt a0 x15_2) == 45) = true := beq_iff_eq.mpr c13
            have c13b1 : ((bt a0 x15_2) != 45) = false := bne_eq_false_iff_eq.mpr c13
            clear c13
            have H' := AM H
            clear H
            have p8 : 0 ≤ (x15_2 : Int) := of_decide_eq_true (by first | (with_reducible assumption) | assumption)
            have q8 : x15_2 < (a0.size : Int) := of_decide_eq_true (by first | (with_reducible assumption) | assumption)
            have hx8 := bt_at a0 x15_2
            replace p8 := eq_true p8
            replace q8 := eq_true q8
            go_wp2
            go_roundg k2
            case measure => have := HJ1.out; have := HK2.out; omega
            case rel => exact ⟨(wrap64 (x15_2 + 1)), (by first | rfl | (simp; done) | (simp [*]; done)), H', ⟨by have := HJ1.out; have := HK2.out; omega⟩, by repeat (first | exact Drawn0.refl _ | apply Drawn0.step)⟩
          rw [if_neg c12] at H
          have c12b0 := decide_eq_false c12
          clear c12
          by_cases c14 : (bt a0 x15_2) > 57
          rotate_left
          · rw [if_neg c14] at H
            have c14b0 := decide_eq_false c14
            clear c14
            have H' := AM H
            clear H
            have p8 : 0 ≤ (x15_2 : Int) := of_decide_eq_true (by first | (with_reducible assumption) | assumption)
            have q8 : x15_2 < (a0.size : Int) := of_decide_eq_true (by first | (with_reducible assumption) | assumption)
            have hx8 := bt_at a0 x15_2
            replace p8 := eq_true p8
            replace q8 := eq_true q8
            go_wp2
            go_roundg k2
            case measure => have := HJ1.out; have := HK2.out; omega
            case rel => exact ⟨(wrap64 (x15_2 + 1)), (by first | rfl | (simp; done) | (simp [*]; done)), H', ⟨by have := HJ1.out; have := HK2.out; omega⟩, by repeat (first | exact Drawn0.refl _ | apply Drawn0.step)⟩
          rw [if_pos c14] at H
          have c14b0 := decide_eq_true c14
          clear c14
          by_cases c15 : (bt a0 x15_2) = 45
          rotate_left
          · rw [if_neg c15] at H
            have c15b0 : ((bt a0 x15_2) == 45) = false := beq_eq_false_iff_ne.mpr c15
            have c15b1 : ((bt a0 x15_2) != 45) = true := bne_iff_ne.mpr c15
            obtain rfl := Option.some.inj H
            have p8 : 0 ≤ (x15_2 : Int) := of_decide_eq_true (by first | (with_reducible assumption) | assumption)
            have q8 : x15_2 < (a0.size : Int) := of_decide_eq_true (by first | (with_reducible assumption) | assumption)
            have hx8 := bt_at a0 x15_2
            replace p8 := eq_true p8
            replace q8 := eq_true q8
            go_wp2
            go_ret
            exact ⟨by first | rfl | (simp; done) | (simp [*]; done), by repeat (first | exact Drawn0.refl _ | apply Drawn0.step)⟩
          rw [if_pos c15] at H
          have c15b0 : ((bt a0 x15_2) == 45) = true := beq_iff_eq.mpr c15
          have c15b1 : ((bt a0 x15_2) != 45) = false := bne_eq_false_iff_eq.mpr c15
          clear c15
          have H' := AM H
          clear H
          have p8 : 0 ≤ (x15_2 : Int) := of_decide_eq_true (by first | (with_reducible assumption) | assumption)
          have q8 : x15_2 < (a0.size : Int) := of_decide_eq_true (by first | (with_reducible assumption) | assumption)
          have hx8 := bt_at a0 x15_2
          replace p8 := eq_true p8
          replace q8 := eq_true q8
          go_wp2
          go_roundg k2
          case measure => have := HJ1.out; have := HK2.out; omega
          case rel => exact ⟨(wrap64 (x15_2 + 1)), (by first | rfl | (simp; done) | (simp [*]; done)), H', ⟨by have := HJ1.out; have := HK2.out; omega⟩, by repeat (first | exact Drawn0.refl _ | apply Drawn0.step)⟩
/-! ### table_contribs_1: function 35 -/
def table_contribs_1.f (a0_0 : ByteArray) (a0_1 : Int) (l0_2 : List (S41)) (a0_3 : Int) (a0_4 : Int) (a0_5 : Int) (a1 : ByteArray) : Option (Bool) := some (a0_0.toList == a1.toList)
set_option maxHeartbeats 8000000 in
set_option maxRecDepth 100000 in
theorem table_contribs_1.calls (a0_0 : ByteArray) (a0_1 : Int) (A0_2 : Option Addr) (c0_2 : Nat) (l0_2 : List (S41)) (a0_3 : Int) (a0_4 : Int) (a0_5 : Int) (a1 : ByteArray) (r : Bool) (w : World) (hr0_2 : Kd.C k41 w A0_2 l0_2.length l0_2) (hc0_2 : l0_2.length ≤ c0_2) (g : Nat) (hgb : w.cell? ⟨g, 0, none⟩ = some (.string a1)) (h : table_contribs_1.f a0_0 a0_1 l0_2 a0_3 a0_4 a0_5 a1 = some r) :
    Calls Tryd.prog 40 #[.agg #[.string a0_0, .int .i64 a0_1, .slice A0_2 l0_2.length c0_2, .int .i64 a0_3, .int .i64 a0_4, .int .i64 a0_5], .pointer (some ⟨g, 0, none⟩)] w fun e w' => e = .returned (.bool r) ∧ Below w.heap.size w w' := by
  have hu43 := Tryd.underlying49
  have HR0_2 := AM hr0_2
  have HC0_2 := AM hc0_2
  clear hr0_2 hc0_2
  have HB := AM (Below.refl w.heap.size w)
  have H : (some (a0_0.toList == a1.toList)) = some r := h
  clear h
  obtain rfl := Option.some.inj H
  have HGB := AM hgb
  clear hgb
  go_enter Tryd.func40, Tryd.ntmps40
  go_wp2_with (first | ((with_reducible refine gD (N := 2) rfl ?_); refine bE ?hg (N := 2) ?hd (cs := #[.string a0_0, .int .i64 a0_1, .slice A0_2 l0_2.length c0_2, .int .i64 a0_3, .int .i64 a0_4, .int .i64 a0_5]) (t := 49) ?hr ?_; (case hd => rfl); (case hg => rfl); (case hr => first | (go_simp; done) | (go_simp; rfl)); intro gb111 hg w3 hbox hb; have hcap : w3.cell? ⟨g, 0, none⟩ = some (.string a1) := (hb.cell (bL _ _ HGB.out)).trans HGB.out; have n0_ := AM (bT bQ hb); have n1_ := AM (hbox); have n2_ := AM ((by rw [hg]; exact (bZ bQ) : w.heap.size ≤ gb111)); have n3_ := AM ((by rw [hg]; exact (bZ bQ) : w.heap.size ≤ gb111)); clear HB; have HB := n0_; have BK111 := n1_; have GW111 := n2_; have GE111 := n3_; clear n0_ n1_ n2_ n3_; clear hb hbox hg; obtain ⟨_, _, _, _, _, _, _, _, _, _, _, _⟩ := bX6 BK111.out))
  go_ret
  exact ⟨by first | rfl | (simp [errW_none, errW_some] <;> rfl) | (simp [*, errW_none, errW_some] <;> rfl), by repeat (first | (with_reducible first | exact HB.out | apply bA | apply bD | apply b1 | refine bS ?_ GE111.out) | exact HB.out)⟩

end Go.Proofs.YtdllkibfikcfbaaDoor.K
