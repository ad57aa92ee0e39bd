-- by a program of this session, over the kit's printer
import Derived.Test.YtdllkibfikcfbaaDoorKx0
import Derived.Test.YtdllkibfikcfbaaDoorKx1
import Derived.Test.YtdllkibfikcfbaaDoorKx2
import Derived.Test.YtdllkibfikcfbaaDoorKx3
namespace Go.Proofs.YtdllkibfikcfbaaDoor.K
open Go.RowKit Go.Proofs.YtdllkibfikcfbaaDoorW.PrintWords Go.Proofs.YtdllkibfikcfbaaDoorW.PrintLast Go.Proofs.YtdllkibfikcfbaaDoorW.PrintMore
attribute [local go_sem] max2_int min2_int max_two min_two max_three min_three max_four min_four   -- for this text's walks alone
set_option linter.unusedVariables false
set_option linter.unusedSimpArgs false

/-! ### table_contribs: function 24 -/
mutual
def table_contribs.l0 : Nat → List (S43) → Int → Int → List (List (S41)) → List (S43) → List (S58) → Int → Int → Option (Int)
  | 0, _, _, _, _, _, _, _, _ => none
  | k + 1, x11, x12, x13, x116000, x116001, x116002, x116003, x116004 => if x13 < x12 then (if 0 ≤ x13 then (if x13 < (x11.length : Int) then ((word_Name.f k ((rd_T43 x11 x13).f0)).bind fun t118 => (if t118 = true then (if x13 ≤ (x116001.length : Int) then ((api_Contrib_34.f k (x116001.take (x13 : Int).toNat) ((rd_T43 x11 x13).f0)).bind fun t123 => (if t123 = true then (some 4) else (if ((rd_T43 x11 x13).f1) = 1 then (table_contribs.j1 k x11 x12 x13 false x116000 x116001 x116002 x116003 x116004 ((rd_T43 x11 x13).f0) ((rd_T43 x11 x13).f1) ((rd_T43 x11 x13).f2) ((rd_T43 x11 x13).f3) ((rd_T43 x11 x13).f4) ((rd_T43 x11 x13).f5)) else (table_contribs.j1 k x11 x12 x13 (((rd_T43 x11 x13).f1) != 2) x116000 x116001 x116002 x116003 x116004 ((rd_T43 x11 x13).f0) ((rd_T43 x11 x13).f1) ((rd_T43 x11 x13).f2) ((rd_T43 x11 x13).f3) ((rd_T43 x11 x13).f4) ((rd_T43 x11 x13).f5))))) else (none)) else (some 5))) else (none)) else (none)) else (some 0)
def table_contribs.j1 : Nat → List (S43) → Int → Int → Bool → List (List (S41)) → List (S43) → List (S58) → Int → Int → ByteArray → Int → List (S41) → Int → Int → Int → Option (Int)
  | 0, _, _, _, _, _, _, _, _, _, _, _, _, _, _, _ => none
  | k + 1, x11, x12, x13, x30, x116000, x116001, x116002, x116003, x116004, x118000, x118001, x118002, x118003, x118004, x118005 => if x30 = true then (table_contribs.j2 k x11 x12 x13 x30 x116000 x116001 x116002 x116003 x116004 x118000 x118001 x118002 x118003 x118004 x118005) else ((frac_Mode.f x118005).bind fun t124 => (table_contribs.j2 k x11 x12 x13 (!t124) x116000 x116001 x116002 x116003 x116004 x118000 x118001 x118002 x118003 x118004 x118005))
def table_contribs.j2 : Nat → List (S43) → Int → Int → Bool → List (List (S41)) → List (S43) → List (S58) → Int → Int → ByteArray → Int → List (S41) → Int → Int → Int → Option (Int)
  | 0, _, _, _, _, _, _, _, _, _, _, _, _, _, _, _ => none
  | k + 1, x11, x12, x13, x30, x116000, x116001, x116002, x116003, x116004, x118000, x118001, x118002, x118003, x118004, x118005 => if x30 = true then (some 1) else (if x118003 < 0 then (table_contribs.j3 k x11 x12 x13 true x116000 x116001 x116002 x116003 x116004 x118000 x118001 x118002 x118003 x118004 x118005) else (if x118003 > 100000000000 then (table_contribs.j3 k x11 x12 x13 true x116000 x116001 x116002 x116003 x116004 x118000 x118001 x118002 x118003 x118004 x118005) else (if x118004 < 0 then (table_contribs.j3 k x11 x12 x13 true x116000 x116001 x116002 x116003 x116004 x118000 x118001 x118002 x118003 x118004 x118005) else (table_contribs.j3 k x11 x12 x13 (decide (x118004 > 100000000000)) x116000 x116001 x116002 x116003 x116004 x118000 x118001 x118002 x118003 x118004 x118005))))
def table_contribs.j3 : Nat → List (S43) → Int → Int → Bool → List (List (S41)) → List (S43) → List (S58) → Int → Int → ByteArray → Int → List (S41) → Int → Int → Int → Option (Int)
  | 0, _, _, _, _, _, _, _, _, _, _, _, _, _, _, _ => none
  | k + 1, x11, x12, x13, x43, x116000, x116001, x116002, x116003, x116004, x118000, x118001, x118002, x118003, x118004, x118005 => if x43 = true then (some 1) else ((band_Check.f k x118002).bind fun t125 => (if t125 = 0 then (table_contribs.l0 k x11 x12 (wrap64 (x13 + 1)) x116000 x116001 x116002 x116003 x116004) else (some t125)))
end
def table_contribs.f (k : Nat) (l0_0 : List (List (S41))) (l0_1 : List (S43)) (l0_2 : List (S58)) (a0_3 : Int) (a0_4 : Int) : Option (Int) := if (l0_1.length : Int) > 6 then (some 2) else (table_contribs.l0 k l0_1 (l0_1.length : Int) 0 l0_0 l0_1 l0_2 a0_3 a0_4)
set_option maxHeartbeats 8000000 in
set_option maxRecDepth 100000 in
theorem table_contribs.calls (k : Nat) (A0_0 : Option Addr) (c0_0 : Nat) (l0_0 : List (List (S41))) (A0_1 : Option Addr) (c0_1 : Nat) (l0_1 : List (S43)) (A0_2 : Option Addr) (c0_2 : Nat) (l0_2 : List (S58)) (a0_3 : Int) (a0_4 : Int) (r : Int) (w : World) (hr0_0 : Kd.C (Kd.slice 52 k41) w A0_0 l0_0.length l0_0) (hc0_0 : l0_0.length ≤ c0_0) (hr0_1 : Kd.C k43 w A0_1 l0_1.length l0_1) (hc0_1 : l0_1.length ≤ c0_1) (hr0_2 : Kd.C k58 w A0_2 l0_2.length l0_2) (hc0_2 : l0_2.length ≤ c0_2) (h : table_contribs.f k l0_0 l0_1 l0_2 a0_3 a0_4 = some r) :
    Calls Tryd.prog 23 #[.agg #[.slice A0_0 l0_0.length c0_0, .slice A0_1 l0_1.length c0_1, .slice A0_2 l0_2.length c0_2, .int .i64 a0_3, .int .i64 a0_4]] w fun e w' => e = .returned (.int .i64 r) ∧ Below w.heap.size w w' := by
  have hu26 := Tryd.underlying26
  have hu43 := Tryd.underlying49
  have HR0_0 := AM hr0_0
  have HC0_0 := AM hc0_0
  clear hr0_0 hc0_0
  have HR0_1 := AM hr0_1
  have HC0_1 := AM hc0_1
  clear hr0_1 hc0_1
  have HR0_2 := AM hr0_2
  have HC0_2 := AM hc0_2
  clear hr0_2 hc0_2
  have HB := AM (Below.refl w.heap.size w)
  have H : (if (l0_1.length : Int) > 6 then (some 2) else (table_contribs.l0 k l0_1 (l0_1.length : Int) 0 l0_0 l0_1 l0_2 a0_3 a0_4)) = some r := h
  clear h
  by_cases c2 : (l0_1.length : Int) > 6
  · rw [if_pos c2] at H
    have c2b0 := decide_eq_true c2
    have c2b1 : decide (6 < l0_1.length) = true := decide_eq_true (by omega)
    clear c2
    obtain rfl := Option.some.inj H
    go_enter Tryd.func23, Tryd.ntmps23
    go_wp2_with (first | ((with_reducible refine gD (N := 1) rfl ?_); refine bE ?hg (N := 1) ?hd (cs := #[.slice A0_0 l0_0.length c0_0, .slice A0_1 l0_1.length c0_1, .slice A0_2 l0_2.length c0_2, .int .i64 a0_3, .int .i64 a0_4]) (t := 26) ?hr ?_; (case hd => rfl); (case hg => rfl); (case hr => first | (go_simp; done) | (go_simp; rfl)); intro gb115 hg w3 hbox hb; have n0_ := AM (bT bQ hb); have n1_ := AM (hbox); have n2_ := AM ((by rw [hg]; exact (bZ bQ) : w.heap.size ≤ gb115)); have n3_ := AM ((by rw [hg]; exact (bZ bQ) : w.heap.size ≤ gb115)); clear HB; have HB := n0_; have BK115 := n1_; have GW115 := n2_; have GE115 := n3_; clear n0_ n1_ n2_ n3_; clear hb hbox hg; obtain ⟨_, _, _, _, _, _, _, _, _, _⟩ := bX5 BK115.out))
    go_ret
    exact ⟨by first | rfl | (simp [errW_none, errW_some] <;> rfl) | (simp [*, errW_none, errW_some] <;> rfl), by repeat (first | (with_reducible first | exact HB.out | apply bA | apply bD | apply b1 | refine bS ?_ GE115.out) | exact HB.out)⟩
  rw [if_neg c2] at H
  have c2b0 := decide_eq_false c2
  have c2b1 : decide (6 < l0_1.length) = false := decide_eq_false (by omega)
  clear c2
  have H' := AM H
  clear H
  go_enter Tryd.func23, Tryd.ntmps23
  go_wp2_with (first | ((with_reducible refine gD (N := 1) rfl ?_); refine bE ?hg (N := 1) ?hd (cs := #[.slice A0_0 l0_0.length c0_0, .slice A0_1 l0_1.length c0_1, .slice A0_2 l0_2.length c0_2, .int .i64 a0_3, .int .i64 a0_4]) (t := 26) ?hr ?_; (case hd => rfl); (case hg => rfl); (case hr => first | (go_simp; done) | (go_simp; rfl)); intro gb115 hg w5 hbox hb; have n0_ := AM (bT bQ hb); have n1_ := AM (hbox); have n2_ := AM ((by rw [hg]; exact (bZ bQ) : w.heap.size ≤ gb115)); have n3_ := AM ((by rw [hg]; exact (bZ bQ) : w.heap.size ≤ gb115)); clear HB; have HB := n0_; have BK115 := n1_; have GW115 := n2_; have GE115 := n3_; clear n0_ n1_ n2_ n3_; clear hb hbox hg; obtain ⟨_, _, _, _, _, _, _, _, _, _⟩ := bX5 BK115.out))
  go_loopg [13] k (fun kq v13 w' => ∃ (x13_1 : Int), v13 = .int .i64 x13_1 ∧ Aside0 (table_contribs.l0 kq l0_1 (l0_1.length : Int) x13_1 l0_0 l0_1 l0_2 a0_3 a0_4 = some r) ∧ Aside0 (kq ≤ k) ∧ Aside0 (w'.heap[gb115]? = some (.cells #[(.slice A0_0 l0_0.length c0_0), (.slice A0_1 l0_1.length c0_1), (.slice A0_2 l0_2.length c0_2), .int .i64 a0_3, .int .i64 a0_4] 26 (0, 0))) ∧ Aside0 (Below w.heap.size w w'))
  case atStart => exact ⟨(0), (by first | rfl | (simp; done) | (simp [*]; done)), H', ⟨Nat.le_refl _⟩, ⟨by (with_reducible repeat (first | refine kD ?_ _ | refine k1_ ?_ | refine kA ?_ _)); exact BK115.out⟩, ⟨by repeat (first | (with_reducible first | exact HB.out | apply bA | apply bD | apply b1 | refine bS ?_ GE115.out) | exact HB.out)⟩⟩
  case round =>
    clear H'
    obtain ⟨x13_1, rfl, HA, HK1, BK115, HB⟩ := hrel
    cases gk with
    | zero => exact absurd HA.out (by simp [table_contribs.l0])
    | succ k1 =>
      have H := HA.out
      clear HA
      simp only [table_contribs.l0] at H
      by_cases c7 : x13_1 < (l0_1.length : Int)
      rotate_left
      · rw [if_neg c7] at H
        have c7b0 := decide_eq_false c7
        clear c7
        obtain rfl := Option.some.inj H
        go_wp2
        go_ret
        exact ⟨by first | rfl | (simp [errW_none, errW_some] <;> rfl) | (simp [*, errW_none, errW_some] <;> rfl), by repeat (first | (with_reducible first | exact HB.out | apply bA | apply bD | apply b1 | refine bS ?_ GE115.out) | exact HB.out)⟩

      rw [if_pos c7] at H
      have c7b0 := decide_eq_true c7
      clear c7
      by_cases c8 : 0 ≤ x13_1
      rotate_left
      · rw [if_neg c8] at H
        exact absurd H (by simp)
      rw [if_pos c8] at H
      have c8b0 := decide_eq_true c8
      clear c8
      by_cases c9 : x13_1 < (l0_1.length : Int)
      rotate_left
      · rw [if_neg c9] at H
        exact absurd H (by simp)
      rw [if_pos c9] at H
      have c9b0 := decide_eq_true c9
      clear c9
      replace H := Option.bind_eq_some_iff.mp H
      obtain ⟨t118, A100, H⟩ := H
      replace H : (if t118 = true then (if x13_1 ≤ (l0_1.length : Int) then ((api_Contrib_34.f k1 (l0_1.take (x13_1 : Int).toNat) ((rd_T43 l0_1 x13_1).f0)).bind fun t123 => (if t123 = true then (some 4) else (if ((rd_T43 l0_1 x13_1).f1) = 1 then (table_contribs.j1 k1 l0_1 (l0_1.length : Int) x13_1 false l0_0 l0_1 l0_2 a0_3 a0_4 ((rd_T43 l0_1 x13_1).f0) ((rd_T43 l0_1 x13_1).f1) ((rd_T43 l0_1 x13_1).f2) ((rd_T43 l0_1 x13_1).f3) ((rd_T43 l0_1 x13_1).f4) ((rd_T43 l0_1 x13_1).f5)) else (table_contribs.j1 k1 l0_1 (l0_1.length : Int) x13_1 (((rd_T43 l0_1 x13_1).f1) != 2) l0_0 l0_1 l0_2 a0_3 a0_4 ((rd_T43 l0_1 x13_1).f0) ((rd_T43 l0_1 x13_1).f1) ((rd_T43 l0_1 x13_1).f2) ((rd_T43 l0_1 x13_1).f3) ((rd_T43 l0_1 x13_1).f4) ((rd_T43 l0_1 x13_1).f5))))) else (none)) else (some 5)) = some r := H
      have A10 := AM A100
      clear A100
      by_cases c11 : t118 = true
      rotate_left
      · replace c11 := Bool.eq_false_iff.mpr c11
        subst c11
        have H1 : (some 5) = some r := by rw [if_neg (show ¬ (false = true) by decide)] at H; exact H
        clear H
        have H := H1
        clear H1
        obtain rfl := Option.some.inj H
        have p116 : 0 ≤ (x13_1 : Int) := of_decide_eq_true (by first | (with_reducible assumption) | assumption)
        have q116 : x13_1 < (l0_1.length : Int) := of_decide_eq_true (by first | (with_reducible assumption) | assumption)
        obtain ⟨ad116, A116_2, c116_2, e116, hx116_0, hx116_1, hx116_2, hx116_3, hx116_4, hx116_5, hl116_2, hi116_2⟩ := at_T43 HR0_1.out x13_1 p116 q116
        cases e116
        replace hx116_0 := (HB.out.cell (bL w _ hx116_0)).trans hx116_0
        replace hx116_1 := (HB.out.cell (bL w _ hx116_1)).trans hx116_1
        replace hx116_2 := (HB.out.cell (bL w _ hx116_2)).trans hx116_2
        replace hx116_3 := (HB.out.cell (bL w _ hx116_3)).trans hx116_3
        replace hx116_4 := (HB.out.cell (bL w _ hx116_4)).trans hx116_4
        replace hx116_5 := (HB.out.cell (bL w _ hx116_5)).trans hx116_5
        have HR116_2 := AM hi116_2
        have HC116_2 := AM hl116_2
        clear hi116_2 hl116_2
        replace p116 := eq_true p116
        replace q116 := eq_true q116
        go_wp2_with (first | ((with_reducible refine gD (N := 4) rfl ?_); refine bE ?hg (N := 4) ?hd (cs := #[.string (⟨#[]⟩ : ByteArray), .int .i64 0, .slice none 0 0, .int .i64 0, .int .i64 0, .int .i64 0]) (t := 49) ?hr ?_; (case hd => rfl); (case hg => rfl); (case hr => first | (go_simp; done) | (go_simp; rfl)); intro gb117 hg w65 hbox hb; have n0_ := AM (kB (g := gb115) (o := .cells #[.slice A0_0 l0_0.length c0_0, .slice (some ad116) l0_1.length c0_1, .slice A0_2 l0_2.length c0_2, .int .i64 a0_3, .int .i64 a0_4] 26 (0, 0)) (kW BK115) hb); have n1_ := AM (bT bQ hb); have n2_ := AM (hbox); have n3_ := AM ((by rw [hg]; exact (bZ bQ) : w.heap.size ≤ gb117)); have n4_ := AM ((by rw [hg]; exact (bZ bQ) : w.heap.size ≤ gb117)); have n5_ := AM ((by rw [hg]; exact Nat.ne_of_lt (blk_lt (g := gb115) (o := .cells #[.slice A0_0 l0_0.length c0_0, .slice (some ad116) l0_1.length c0_1, .slice A0_2 l0_2.length c0_2, .int .i64 a0_3, .int .i64 a0_4] 26 (0, 0)) (kW BK115)) : gb115 ≠ gb117)); have n6_ := AM ((by rw [hg]; exact Nat.ne_of_gt (blk_lt (g := gb115) (o := .cells #[.slice A0_0 l0_0.length c0_0, .slice (some ad116) l0_1.length c0_1, .slice A0_2 l0_2.length c0_2, .int .i64 a0_3, .int .i64 a0_4] 26 (0, 0)) (kW BK115)) : gb117 ≠ gb115)); clear BK115; clear HB; have BK115 := n0_; have HB := n1_; have BK117 := n2_; have GW117 := n3_; have GE117 := n4_; have NB115_117 := n5_; have NB117_115 := n6_; clear n0_ n1_ n2_ n3_ n4_ n5_ n6_; clear hb hbox hg; have hnb66 := NB117_115.out; have hnc66 := NB115_117.out; obtain ⟨_, _, _, _, _, _, _, _, _, _, _, _⟩ := bX6 BK117.out) | ((with_reducible refine gC (f := 38) rfl ?_); refine gL (some 21) rfl rfl Tryd.func38 (by kernel_rfl) rfl #[.string ((rd_T43 l0_1 x13_1).f0)] rfl (by (try simp only [List.map_toArray, List.map_cons, List.map_nil]); first | done | rfl | (simp only [List.length_drop, List.length_take]; rfl)) ?_; (with_reducible refine (word_Name.calls k1 ((rd_T43 l0_1 x13_1).f0) false _ A10.out).mono ?_); rintro e w' ⟨rfl, ⟨nd, rfl⟩⟩; refine ⟨_, rfl, ?_⟩))
        go_ret
        exact ⟨by first | rfl | (simp [errW_none, errW_some] <;> rfl) | (simp [*, errW_none, errW_some] <;> rfl), by repeat (first | (with_reducible first | exact HB.out | apply bA | apply bD | apply b1 | refine bS ?_ GE115.out | refine bS ?_ GE117.out) | exact HB.out)⟩
      subst c11
      have H1 : (if x13_1 ≤ (l0_1.length : Int) then ((api_Contrib_34.f k1 (l0_1.take (x13_1 : Int).toNat) ((rd_T43 l0_1 x13_1).f0)).bind fun t123 => (if t123 = true then (some 4) else (if ((rd_T43 l0_1 x13_1).f1) = 1 then (table_contribs.j1 k1 l0_1 (l0_1.length : Int) x13_1 false l0_0 l0_1 l0_2 a0_3 a0_4 ((rd_T43 l0_1 x13_1).f0) ((rd_T43 l0_1 x13_1).f1) ((rd_T43 l0_1 x13_1).f2) ((rd_T43 l0_1 x13_1).f3) ((rd_T43 l0_1 x13_1).f4) ((rd_T43 l0_1 x13_1).f5)) else (table_contribs.j1 k1 l0_1 (l0_1.length : Int) x13_1 (((rd_T43 l0_1 x13_1).f1) != 2) l0_0 l0_1 l0_2 a0_3 a0_4 ((rd_T43 l0_1 x13_1).f0) ((rd_T43 l0_1 x13_1).f1) ((rd_T43 l0_1 x13_1).f2) ((rd_T43 l0_1 x13_1).f3) ((rd_T43 l0_1 x13_1).f4) ((rd_T43 l0_1 x13_1).f5))))) else (none)) = some r := by rw [if_pos rfl] at H; exact H
      clear H
      have H := H1
      clear H1
      have c12b0 := eq_true (of_decide_eq_true (by first | (with_reducible assumption) | assumption) : 0 ≤ x13_1)
      by_cases c13 : x13_1 ≤ (l0_1.length : Int)
      rotate_left
      · rw [if_neg c13] at H
        exact absurd H (by simp)
      rw [if_pos c13] at H
      have c13b0 := eq_true c13
      have c13b1 : decide (x13_1 ≤ (l0_1.length : Int)) = true := decide_eq_true c13
      clear c13
      obtain ⟨y119, hy119⟩ : ∃ y_ : List (S43), y_ = (l0_1.take (x13_1 : Int).toNat) := ⟨_, rfl⟩
      replace H : ((api_Contrib_34.f k1 y119 ((rd_T43 l0_1 x13_1).f0)).bind fun t123 => (if t123 = true then (some 4) else (if ((rd_T43 l0_1 x13_1).f1) = 1 then (table_contribs.j1 k1 l0_1 (l0_1.length : Int) x13_1 false l0_0 l0_1 l0_2 a0_3 a0_4 ((rd_T43 l0_1 x13_1).f0) ((rd_T43 l0_1 x13_1).f1) ((rd_T43 l0_1 x13_1).f2) ((rd_T43 l0_1 x13_1).f3) ((rd_T43 l0_1 x13_1).f4) ((rd_T43 l0_1 x13_1).f5)) else (table_contribs.j1 k1 l0_1 (l0_1.length : Int) x13_1 (((rd_T43 l0_1 x13_1).f1) != 2) l0_0 l0_1 l0_2 a0_3 a0_4 ((rd_T43 l0_1 x13_1).f0) ((rd_T43 l0_1 x13_1).f1) ((rd_T43 l0_1 x13_1).f2) ((rd_T43 l0_1 x13_1).f3) ((rd_T43 l0_1 x13_1).f4) ((rd_T43 l0_1 x13_1).f5))))) = some r := by first | (rw [hy119]; with_reducible exact H) | (have H2_ := (Option.bind_some _ _).symm.trans H; rw [hy119]; with_reducible exact H2_) | (have H2_ := (Option.bind_some _ _).symm.trans H; with_reducible exact H2_) | with_reducible exact H | (rw [hy119]; exact H) | exact H
      have Ny119 := AM hy119
      clear hy119
      replace H := Option.bind_eq_some_iff.mp H
      obtain ⟨t123, A140, H⟩ := H
      replace H : (if t123 = true then (some 4) else (if ((rd_T43 l0_1 x13_1).f1) = 1 then (table_contribs.j1 k1 l0_1 (l0_1.length : Int) x13_1 false l0_0 l0_1 l0_2 a0_3 a0_4 ((rd_T43 l0_1 x13_1).f0) ((rd_T43 l0_1 x13_1).f1) ((rd_T43 l0_1 x13_1).f2) ((rd_T43 l0_1 x13_1).f3) ((rd_T43 l0_1 x13_1).f4) ((rd_T43 l0_1 x13_1).f5)) else (table_contribs.j1 k1 l0_1 (l0_1.length : Int) x13_1 (((rd_T43 l0_1 x13_1).f1) != 2) l0_0 l0_1 l0_2 a0_3 a0_4 ((rd_T43 l0_1 x13_1).f0) ((rd_T43 l0_1 x13_1).f1) ((rd_T43 l0_1 x13_1).f2) ((rd_T43 l0_1 x13_1).f3) ((rd_T43 l0_1 x13_1).f4) ((rd_T43 l0_1 x13_1).f5)))) = some r := H
      have A14 := AM A140
      clear A140
      by_cases c15 : t123 = true
      · subst c15
        have H1 : (some 4) = some r := by rw [if_pos rfl] at H; exact H
        clear H
        have H := H1
        clear H1
        obtain rfl := Option.some.inj H
        have p116 : 0 ≤ (x13_1 : Int) := of_decide_eq_true (by first | (with_reducible assumption) | assumption)
        have q116 : x13_1 < (l0_1.length : Int) := of_decide_eq_true (by first | (with_reducible assumption) | assumption)
        obtain ⟨ad116, A116_2, c116_2, e116, hx116_0, hx116_1, hx116_2, hx116_3, hx116_4, hx116_5, hl116_2, hi116_2⟩ := at_T43 HR0_1.out x13_1 p116 q116
        cases e116
        replace hx116_0 := (HB.out.cell (bL w _ hx116_0)).trans hx116_0
        replace hx116_1 := (HB.out.cell (bL w _ hx116_1)).trans hx116_1
        replace hx116_2 := (HB.out.cell (bL w _ hx116_2)).trans hx116_2
        replace hx116_3 := (HB.out.cell (bL w _ hx116_3)).trans hx116_3
        replace hx116_4 := (HB.out.cell (bL w _ hx116_4)).trans hx116_4
        replace hx116_5 := (HB.out.cell (bL w _ hx116_5)).trans hx116_5
        have HR116_2 := AM hi116_2
        have HC116_2 := AM hl116_2
        clear hi116_2 hl116_2
        replace p116 := eq_true p116
        replace q116 := eq_true q116
        go_wp2_with (first | ((with_reducible refine gD (N := 4) rfl ?_); refine bE ?hg (N := 4) ?hd (cs := #[.string (⟨#[]⟩ : ByteArray), .int .i64 0, .slice none 0 0, .int .i64 0, .int .i64 0, .int .i64 0]) (t := 49) ?hr ?_; (case hd => rfl); (case hg => rfl); (case hr => first | (go_simp; done) | (go_simp; rfl)); intro gb117 hg w16 hbox hb; have n0_ := AM (kB (g := gb115) (o := .cells #[.slice A0_0 l0_0.length c0_0, .slice (some ad116) l0_1.length c0_1, .slice A0_2 l0_2.length c0_2, .int .i64 a0_3, .int .i64 a0_4] 26 (0, 0)) (kW BK115) hb); have n1_ := AM (bT bQ hb); have n2_ := AM (hbox); have n3_ := AM ((by rw [hg]; exact (bZ bQ) : w.heap.size ≤ gb117)); have n4_ := AM ((by rw [hg]; exact (bZ bQ) : w.heap.size ≤ gb117)); have n5_ := AM ((by rw [hg]; exact Nat.ne_of_lt (blk_lt (g := gb115) (o := .cells #[.slice A0_0 l0_0.length c0_0, .slice (some ad116) l0_1.length c0_1, .slice A0_2 l0_2.length c0_2, .int .i64 a0_3, .int .i64 a0_4] 26 (0, 0)) (kW BK115)) : gb115 ≠ gb117)); have n6_ := AM ((by rw [hg]; exact Nat.ne_of_gt (blk_lt (g := gb115) (o := .cells #[.slice A0_0 l0_0.length c0_0, .slice (some ad116) l0_1.length c0_1, .slice A0_2 l0_2.length c0_2, .int .i64 a0_3, .int .i64 a0_4] 26 (0, 0)) (kW BK115)) : gb117 ≠ gb115)); clear BK115; clear HB; have BK115 := n0_; have HB := n1_; have BK117 := n2_; have GW117 := n3_; have GE117 := n4_; have NB115_117 := n5_; have NB117_115 := n6_; clear n0_ n1_ n2_ n3_ n4_ n5_ n6_; clear hb hbox hg; have hnb17 := NB117_115.out; have hnc17 := NB115_117.out; obtain ⟨_, _, _, _, _, _, _, _, _, _, _, _⟩ := bX6 BK117.out) | ((with_reducible refine gS (t := 49) (p := 4) rfl ?_); refine sE (t := 49) (p := 4) (v := ?vo_w19) (w1 := ((((((w16.setCell ⟨gb117, 0, none⟩ (.string ((rd_T43 l0_1 x13_1).f0))).setCell ⟨gb117, 1, none⟩ (.int .i64 ((rd_T43 l0_1 x13_1).f1))).setCell ⟨gb117, 2, none⟩ (.slice A116_2 ((rd_T43 l0_1 x13_1).f2).length c116_2)).setCell ⟨gb117, 3, none⟩ (.int .i64 ((rd_T43 l0_1 x13_1).f3))).setCell ⟨gb117, 4, none⟩ (.int .i64 ((rd_T43 l0_1 x13_1).f4))).setCell ⟨gb117, 5, none⟩ (.int .i64 ((rd_T43 l0_1 x13_1).f5)))) ?hg ?ho ?hn ?hr ?_; (case ho => rfl); (case hg => rfl); (case hn => rfl); (case hr => first | (go_simp; done) | (go_simp; rfl)); intro w19 hw; have n0_ : Aside0 (w19.heap[gb115]? = some (.cells #[.slice A0_0 l0_0.length c0_0, .slice (some ad116) l0_1.length c0_1, .slice A0_2 l0_2.length c0_2, .int .i64 a0_3, .int .i64 a0_4] 26 (0, 0))) := ⟨(by rw [hw]; exact (by (with_reducible repeat (first | refine kD ?_ _ | refine k1_ ?_ | refine kA ?_ _)); refine kF ?_ NB115_117.out _; (with_reducible repeat (first | refine kD ?_ _ | refine k1_ ?_ | refine kA ?_ _)); refine kF ?_ NB115_117.out _; (with_reducible repeat (first | refine kD ?_ _ | refine k1_ ?_ | refine kA ?_ _)); refine kF ?_ NB115_117.out _; (with_reducible repeat (first | refine kD ?_ _ | refine k1_ ?_ | refine kA ?_ _)); refine kF ?_ NB115_117.out _; (with_reducible repeat (first | refine kD ?_ _ | refine k1_ ?_ | refine kA ?_ _)); refine kF ?_ NB115_117.out _; (with_reducible repeat (first | refine kD ?_ _ | refine k1_ ?_ | refine kA ?_ _)); refine kF ?_ NB115_117.out _; (with_reducible repeat (first | refine kD ?_ _ | refine k1_ ?_ | refine kA ?_ _)); exact BK115.out))⟩; have n1_ : Aside0 (w19.heap[gb117]? = some (.cells #[.string ((rd_T43 l0_1 x13_1).f0), .int .i64 ((rd_T43 l0_1 x13_1).f1), .slice A116_2 ((rd_T43 l0_1 x13_1).f2).length c116_2, .int .i64 ((rd_T43 l0_1 x13_1).f3), .int .i64 ((rd_T43 l0_1 x13_1).f4), .int .i64 ((rd_T43 l0_1 x13_1).f5)] 49 (0, 0))) := ⟨(by rw [hw]; exact (by (with_reducible repeat (first | refine kD ?_ _ | refine k1_ ?_ | refine kA ?_ _)); refine kP (cs := #[.string ((rd_T43 l0_1 x13_1).f0), .int .i64 ((rd_T43 l0_1 x13_1).f1), .slice A116_2 ((rd_T43 l0_1 x13_1).f2).length c116_2, .int .i64 ((rd_T43 l0_1 x13_1).f3), .int .i64 ((rd_T43 l0_1 x13_1).f4), .int .i64 0]) ?_ 5 _ rfl; (with_reducible repeat (first | refine kD ?_ _ | refine k1_ ?_ | refine kA ?_ _)); refine kP (cs := #[.string ((rd_T43 l0_1 x13_1).f0), .int .i64 ((rd_T43 l0_1 x13_1).f1), .slice A116_2 ((rd_T43 l0_1 x13_1).f2).length c116_2, .int .i64 ((rd_T43 l0_1 x13_1).f3), .int .i64 0, .int .i64 0]) ?_ 4 _ rfl; (with_reducible repeat (first | refine kD ?_ _ | refine k1_ ?_ | refine kA ?_ _)); refine kP (cs := #[.string ((rd_T43 l0_1 x13_1).f0), .int .i64 ((rd_T43 l0_1 x13_1).f1), .slice A116_2 ((rd_T43 l0_1 x13_1).f2).length c116_2, .int .i64 0, .int .i64 0, .int .i64 0]) ?_ 3 _ rfl; (with_reducible repeat (first | refine kD ?_ _ | refine k1_ ?_ | refine kA ?_ _)); refine kP (cs := #[.string ((rd_T43 l0_1 x13_1).f0), .int .i64 ((rd_T43 l0_1 x13_1).f1), .slice none 0 0, .int .i64 0, .int .i64 0, .int .i64 0]) ?_ 2 _ rfl; (with_reducible repeat (first | refine kD ?_ _ | refine k1_ ?_ | refine kA ?_ _)); refine kP (cs := #[.string ((rd_T43 l0_1 x13_1).f0), .int .i64 0, .slice none 0 0, .int .i64 0, .int .i64 0, .int .i64 0]) ?_ 1 _ rfl; (with_reducible repeat (first | refine kD ?_ _ | refine k1_ ?_ | refine kA ?_ _)); refine kP (cs := #[.string (⟨#[]⟩ : ByteArray), .int .i64 0, .slice none 0 0, .int .i64 0, .int .i64 0, .int .i64 0]) ?_ 0 _ rfl; (with_reducible repeat (first | refine kD ?_ _ | refine k1_ ?_ | refine kA ?_ _)); exact BK117.out))⟩; have n2_ : Aside0 (Below w.heap.size w w19) := ⟨(by rw [hw]; exact bQ)⟩; clear hw; clear BK115; clear BK117; clear HB; have BK115 := n0_; have BK117 := n1_; have HB := n2_; clear n0_ n1_ n2_; obtain ⟨_, _, _, _, _, _, _, _, _, _, _, _⟩ := bX6 BK117.out) | ((with_reducible refine gC (f := 38) rfl ?_); refine gL (some 21) rfl rfl Tryd.func38 (by kernel_rfl) rfl #[.string ((rd_T43 l0_1 x13_1).f0)] rfl (by (try simp only [List.map_toArray, List.map_cons, List.map_nil]); first | done | rfl | (simp only [List.length_drop, List.length_take]; rfl)) ?_; (with_reducible refine (word_Name.calls k1 ((rd_T43 l0_1 x13_1).f0) true _ A10.out).mono ?_); rintro e w' ⟨rfl, ⟨nd, rfl⟩⟩; refine ⟨_, rfl, ?_⟩; obtain ⟨_, _, _, _, _, _, _, _, _, _⟩ := bX5 BK115.out; have q22 : (x13_1 : Int) ≤ ((l0_1.length : Int) : Int) := of_decide_eq_true (by first | (with_reducible assumption) | assumption); obtain ⟨i022, hi022, _, hsz22, _⟩ := info_parts info43; have hroom22 : l0_1.length ≤ c0_1 := HC0_1.out; have hC22 : Kd.C k43 _ (some ad116) l0_1.length l0_1 := HR0_1.out; have hcut22 := cut_to (P := Tryd.prog) 23 49 .i64 Tryd.underlying23 hi022 (some ad116) l0_1.length c0_1 x13_1 (of_decide_eq_true (by first | (with_reducible assumption) | assumption)) q22 hroom22; have hr22 := Kd.C_take (m := (x13_1 : Int).toNat) hC22 (by omega); have hy22 : y119.length = (x13_1 : Int).toNat := (by rw [Ny119.out, List.length_take]; omega); rw [← Ny119.out] at hr22; rw [← hy22] at hcut22; have HR122 := AM hr22; have HC122 := AM (show y119.length ≤ c0_1 from by omega); clear hr22 hC22 hroom22 hi022 hsz22; have KY22 := AM hy22; clear hy22; replace q22 := eq_true q22) | ((with_reducible refine gC (f := 39) rfl ?_); refine gL (some 29) rfl rfl Tryd.func39 (by kernel_rfl) rfl #[.slice (some ad116) y119.length c0_1, .func (.func 40) #[] #[.pointer (some ⟨gb117, 0, none⟩)]] rfl (by (try simp only [List.map_toArray, List.map_cons, List.map_nil]); first | done | rfl | (simp only [List.length_drop, List.length_take]; rfl)) ?_; (with_reducible refine (api_Contrib_34.calls k1 _ _ y119 ((rd_T43 l0_1 x13_1).f0) true _ ?side1 ?side2 gb117 ?sideg A14.out).mono ?_); (case side1 => repeat (first | exact (cB HR122.out bQ) | (with_reducible refine cA ?_ _) | (with_reducible refine cD ?_ _) | (with_reducible refine c1_ ?_))); (case side2 => exact HC122.out); (case sideg => exact (bC BK117.out 0).trans rfl); rintro e w23 ⟨rfl, hb⟩; refine ⟨_, rfl, ?_⟩; have n0_ := AM (kB (g := gb115) (o := .cells #[.slice A0_0 l0_0.length c0_0, .slice (some ad116) l0_1.length c0_1, .slice A0_2 l0_2.length c0_2, .int .i64 a0_3, .int .i64 a0_4] 26 (0, 0)) (kW BK115) hb); have n1_ := AM (kB (g := gb117) (o := .cells #[.string ((rd_T43 l0_1 x13_1).f0), .int .i64 ((rd_T43 l0_1 x13_1).f1), .slice A116_2 ((rd_T43 l0_1 x13_1).f2).length c116_2, .int .i64 ((rd_T43 l0_1 x13_1).f3), .int .i64 ((rd_T43 l0_1 x13_1).f4), .int .i64 ((rd_T43 l0_1 x13_1).f5)] 49 (0, 0)) (kW BK117) hb); have n2_ := AM (bT bQ hb); clear BK115; clear BK117; clear HB; have BK115 := n0_; have BK117 := n1_; have HB := n2_; clear n0_ n1_ n2_; (try clear hb); (try clear hb2); (try clear hk); (try clear hi)))
        go_ret
        exact ⟨by first | rfl | (simp [errW_none, errW_some] <;> rfl) | (simp [*, errW_none, errW_some] <;> rfl), by repeat (first | (with_reducible first | exact HB.out | apply bA | apply bD | apply b1 | refine bS ?_ GE115.out | refine bS ?_ GE117.out) | exact HB.out)⟩
      replace c15 := Bool.eq_false_iff.mpr c15
      subst c15
      have H1 : (if ((rd_T43 l0_1 x13_1).f1) = 1 then (table_contribs.j1 k1 l0_1 (l0_1.length : Int) x13_1 false l0_0 l0_1 l0_2 a0_3 a0_4 ((rd_T43 l0_1 x13_1).f0) ((rd_T43 l0_1 x13_1).f1) ((rd_T43 l0_1 x13_1).f2) ((rd_T43 l0_1 x13_1).f3) ((rd_T43 l0_1 x13_1).f4) ((rd_T43 l0_1 x13_1).f5)) else (table_contribs.j1 k1 l0_1 (l0_1.length : Int) x13_1 (((rd_T43 l0_1 x13_1).f1) != 2) l0_0 l0_1 l0_2 a0_3 a0_4 ((rd_T43 l0_1 x13_1).f0) ((rd_T43 l0_1 x13_1).f1) ((rd_T43 l0_1 x13_1).f2) ((rd_T43 l0_1 x13_1).f3) ((rd_T43 l0_1 x13_1).f4) ((rd_T43 l0_1 x13_1).f5))) = some r := by rw [if_neg (show ¬ (false = true) by decide)] at H; exact H
      clear H
      have H := H1
      clear H1
      have HC24 := AM H
      clear H
      have p116 : 0 ≤ (x13_1 : Int) := of_decide_eq_true (by first | (with_reducible assumption) | assumption)
      have q116 : x13_1 < (l0_1.length : Int) := of_decide_eq_true (by first | (with_reducible assumption) | assumption)
      obtain ⟨ad116, A116_2, c116_2, e116, hx116_0, hx116_1, hx116_2, hx116_3, hx116_4, hx116_5, hl116_2, hi116_2⟩ := at_T43 HR0_1.out x13_1 p116 q116
      cases e116
      replace hx116_0 := (HB.out.cell (bL w _ hx116_0)).trans hx116_0
      replace hx116_1 := (HB.out.cell (bL w _ hx116_1)).trans hx116_1
      replace hx116_2 := (HB.out.cell (bL w _ hx116_2)).trans hx116_2
      replace hx116_3 := (HB.out.cell (bL w _ hx116_3)).trans hx116_3
      replace hx116_4 := (HB.out.cell (bL w _ hx116_4)).trans hx116_4
      replace hx116_5 := (HB.out.cell (bL w _ hx116_5)).trans hx116_5
      have HR116_2 := AM hi116_2
      have HC116_2 := AM hl116_2
      clear hi116_2 hl116_2
      replace p116 := eq_true p116
      replace q116 := eq_true q116
      go_upto_region 10 with (first | ((with_reducible refine gD (N := 4) rfl ?_); refine bE ?hg (N := 4) ?hd (cs := #[.string (⟨#[]⟩ : ByteArray), .int .i64 0, .slice none 0 0, .int .i64 0, .int .i64 0, .int .i64 0]) (t := 49) ?hr ?_; (case hd => rfl); (case hg => rfl); (case hr => first | (go_simp; done) | (go_simp; rfl)); intro gb117 hg w25 hbox hb; have n0_ := AM (kB (g := gb115) (o := .cells #[.slice A0_0 l0_0.length c0_0, .slice (some ad116) l0_1.length c0_1, .slice A0_2 l0_2.length c0_2, .int .i64 a0_3, .int .i64 a0_4] 26 (0, 0)) (kW BK115) hb); have n1_ := AM (bT bQ hb); have n2_ := AM (hbox); have n3_ := AM ((by rw [hg]; exact (bZ bQ) : w.heap.size ≤ gb117)); have n4_ := AM ((by rw [hg]; exact (bZ bQ) : w.heap.size ≤ gb117)); have n5_ := AM ((by rw [hg]; exact Nat.ne_of_lt (blk_lt (g := gb115) (o := .cells #[.slice A0_0 l0_0.length c0_0, .slice (some ad116) l0_1.length c0_1, .slice A0_2 l0_2.length c0_2, .int .i64 a0_3, .int .i64 a0_4] 26 (0, 0)) (kW BK115)) : gb115 ≠ gb117)); have n6_ := AM ((by rw [hg]; exact Nat.ne_of_gt (blk_lt (g := gb115) (o := .cells #[.slice A0_0 l0_0.length c0_0, .slice (some ad116) l0_1.length c0_1, .slice A0_2 l0_2.length c0_2, .int .i64 a0_3, .int .i64 a0_4] 26 (0, 0)) (kW BK115)) : gb117 ≠ gb115)); clear BK115; clear HB; have BK115 := n0_; have HB := n1_; have BK117 := n2_; have GW117 := n3_; have GE117 := n4_; have NB115_117 := n5_; have NB117_115 := n6_; clear n0_ n1_ n2_ n3_ n4_ n5_ n6_; clear hb hbox hg; have hnb26 := NB117_115.out; have hnc26 := NB115_117.out; obtain ⟨_, _, _, _, _, _, _, _, _, _, _, _⟩ := bX6 BK117.out) | ((with_reducible refine gS (t := 49) (p := 4) rfl ?_); refine sE (t := 49) (p := 4) (v := ?vo_w28) (w1 := ((((((w25.setCell ⟨gb117, 0, none⟩ (.string ((rd_T43 l0_1 x13_1).f0))).setCell ⟨gb117, 1, none⟩ (.int .i64 ((rd_T43 l0_1 x13_1).f1))).setCell ⟨gb117, 2, none⟩ (.slice A116_2 ((rd_T43 l0_1 x13_1).f2).length c116_2)).setCell ⟨gb117, 3, none⟩ (.int .i64 ((rd_T43 l0_1 x13_1).f3))).setCell ⟨gb117, 4, none⟩ (.int .i64 ((rd_T43 l0_1 x13_1).f4))).setCell ⟨gb117, 5, none⟩ (.int .i64 ((rd_T43 l0_1 x13_1).f5)))) ?hg ?ho ?hn ?hr ?_; (case ho => rfl); (case hg => rfl); (case hn => rfl); (case hr => first | (go_simp; done) | (go_simp; rfl)); intro w28 hw; have n0_ : Aside0 (w28.heap[gb115]? = some (.cells #[.slice A0_0 l0_0.length c0_0, .slice (some ad116) l0_1.length c0_1, .slice A0_2 l0_2.length c0_2, .int .i64 a0_3, .int .i64 a0_4] 26 (0, 0))) := ⟨(by rw [hw]; exact (by (with_reducible repeat (first | refine kD ?_ _ | refine k1_ ?_ | refine kA ?_ _)); refine kF ?_ NB115_117.out _; (with_reducible repeat (first | refine kD ?_ _ | refine k1_ ?_ | refine kA ?_ _)); refine kF ?_ NB115_117.out _; (with_reducible repeat (first | refine kD ?_ _ | refine k1_ ?_ | refine kA ?_ _)); refine kF ?_ NB115_117.out _; (with_reducible repeat (first | refine kD ?_ _ | refine k1_ ?_ | refine kA ?_ _)); refine kF ?_ NB115_117.out _; (with_reducible repeat (first | refine kD ?_ _ | refine k1_ ?_ | refine kA ?_ _)); refine kF ?_ NB115_117.out _; (with_reducible repeat (first | refine kD ?_ _ | refine k1_ ?_ | refine kA ?_ _)); refine kF ?_ NB115_117.out _; (with_reducible repeat (first | refine kD ?_ _ | refine k1_ ?_ | refine kA ?_ _)); exact BK115.out))⟩; have n1_ : Aside0 (w28.heap[gb117]? = some (.cells #[.string ((rd_T43 l0_1 x13_1).f0), .int .i64 ((rd_T43 l0_1 x13_1).f1), .slice A116_2 ((rd_T43 l0_1 x13_1).f2).length c116_2, .int .i64 ((rd_T43 l0_1 x13_1).f3), .int .i64 ((rd_T43 l0_1 x13_1).f4), .int .i64 ((rd_T43 l0_1 x13_1).f5)] 49 (0, 0))) := ⟨(by rw [hw]; exact (by (with_reducible repeat (first | refine kD ?_ _ | refine k1_ ?_ | refine kA ?_ _)); refine kP (cs := #[.string ((rd_T43 l0_1 x13_1).f0), .int .i64 ((rd_T43 l0_1 x13_1).f1), .slice A116_2 ((rd_T43 l0_1 x13_1).f2).length c116_2, .int .i64 ((rd_T43 l0_1 x13_1).f3), .int .i64 ((rd_T43 l0_1 x13_1).f4), .int .i64 0]) ?_ 5 _ rfl; (with_reducible repeat (first | refine kD ?_ _ | refine k1_ ?_ | refine kA ?_ _)); refine kP (cs := #[.string ((rd_T43 l0_1 x13_1).f0), .int .i64 ((rd_T43 l0_1 x13_1).f1), .slice A116_2 ((rd_T43 l0_1 x13_1).f2).length c116_2, .int .i64 ((rd_T43 l0_1 x13_1).f3), .int .i64 0, .int .i64 0]) ?_ 4 _ rfl; (with_reducible repeat (first | refine kD ?_ _ | refine k1_ ?_ | refine kA ?_ _)); refine kP (cs := #[.string ((rd_T43 l0_1 x13_1).f0), .int .i64 ((rd_T43 l0_1 x13_1).f1), .slice A116_2 ((rd_T43 l0_1 x13_1).f2).length c116_2, .int .i64 0, .int .i64 0, .int .i64 0]) ?_ 3 _ rfl; (with_reducible repeat (first | refine kD ?_ _ | refine k1_ ?_ | refine kA ?_ _)); refine kP (cs := #[.string ((rd_T43 l0_1 x13_1).f0), .int .i64 ((rd_T43 l0_1 x13_1).f1), .slice none 0 0, .int .i64 0, .int .i64 0, .int .i64 0]) ?_ 2 _ rfl; (with_reducible repeat (first | refine kD ?_ _ | refine k1_ ?_ | refine kA ?_ _)); refine kP (cs := #[.string ((rd_T43 l0_1 x13_1).f0), .int .i64 0, .slice none 0 0, .int .i64 0, .int .i64 0, .int .i64 0]) ?_ 1 _ rfl; (with_reducible repeat (first | refine kD ?_ _ | refine k1_ ?_ | refine kA ?_ _)); refine kP (cs := #[.string (⟨#[]⟩ : ByteArray), .int .i64 0, .slice none 0 0, .int .i64 0, .int .i64 0, .int .i64 0]) ?_ 0 _ rfl; (with_reducible repeat (first | refine kD ?_ _ | refine k1_ ?_ | refine kA ?_ _)); exact BK117.out))⟩; have n2_ : Aside0 (Below w.heap.size w w28) := ⟨(by rw [hw]; exact bQ)⟩; clear hw; clear BK115; clear BK117; clear HB; have BK115 := n0_; have BK117 := n1_; have HB := n2_; clear n0_ n1_ n2_; obtain ⟨_, _, _, _, _, _, _, _, _, _, _, _⟩ := bX6 BK117.out) | ((with_reducible refine gC (f := 38) rfl ?_); refine gL (some 21) rfl rfl Tryd.func38 (by kernel_rfl) rfl #[.string ((rd_T43 l0_1 x13_1).f0)] rfl (by (try simp only [List.map_toArray, List.map_cons, List.map_nil]); first | done | rfl | (simp only [List.length_drop, List.length_take]; rfl)) ?_; (with_reducible refine (word_Name.calls k1 ((rd_T43 l0_1 x13_1).f0) true _ A10.out).mono ?_); rintro e w' ⟨rfl, ⟨nd, rfl⟩⟩; refine ⟨_, rfl, ?_⟩; obtain ⟨_, _, _, _, _, _, _, _, _, _⟩ := bX5 BK115.out; have q31 : (x13_1 : Int) ≤ ((l0_1.length : Int) : Int) := of_decide_eq_true (by first | (with_reducible assumption) | assumption); obtain ⟨i031, hi031, _, hsz31, _⟩ := info_parts info43; have hroom31 : l0_1.length ≤ c0_1 := HC0_1.out; have hC31 : Kd.C k43 _ (some ad116) l0_1.length l0_1 := HR0_1.out; have hcut31 := cut_to (P := Tryd.prog) 23 49 .i64 Tryd.underlying23 hi031 (some ad116) l0_1.length c0_1 x13_1 (of_decide_eq_true (by first | (with_reducible assumption) | assumption)) q31 hroom31; have hr31 := Kd.C_take (m := (x13_1 : Int).toNat) hC31 (by omega); have hy31 : y119.length = (x13_1 : Int).toNat := (by rw [Ny119.out, List.length_take]; omega); rw [← Ny119.out] at hr31; rw [← hy31] at hcut31; have HR122 := AM hr31; have HC122 := AM (show y119.length ≤ c0_1 from by omega); clear hr31 hC31 hroom31 hi031 hsz31; have KY31 := AM hy31; clear hy31; replace q31 := eq_true q31) | ((with_reducible refine gC (f := 39) rfl ?_); refine gL (some 29) rfl rfl Tryd.func39 (by kernel_rfl) rfl #[.slice (some ad116) y119.length c0_1, .func (.func 40) #[] #[.pointer (some ⟨gb117, 0, none⟩)]] rfl (by (try simp only [List.map_toArray, List.map_cons, List.map_nil]); first | done | rfl | (simp only [List.length_drop, List.length_take]; rfl)) ?_; (with_reducible refine (api_Contrib_34.calls k1 _ _ y119 ((rd_T43 l0_1 x13_1).f0) false _ ?side1 ?side2 gb117 ?sideg A14.out).mono ?_); (case side1 => repeat (first | exact (cB HR122.out bQ) | (with_reducible refine cA ?_ _) | (with_reducible refine cD ?_ _) | (with_reducible refine c1_ ?_))); (case side2 => exact HC122.out); (case sideg => exact (bC BK117.out 0).trans rfl); rintro e w32 ⟨rfl, hb⟩; refine ⟨_, rfl, ?_⟩; have n0_ := AM (kB (g := gb115) (o := .cells #[.slice A0_0 l0_0.length c0_0, .slice (some ad116) l0_1.length c0_1, .slice A0_2 l0_2.length c0_2, .int .i64 a0_3, .int .i64 a0_4] 26 (0, 0)) (kW BK115) hb); have n1_ := AM (kB (g := gb117) (o := .cells #[.string ((rd_T43 l0_1 x13_1).f0), .int .i64 ((rd_T43 l0_1 x13_1).f1), .slice A116_2 ((rd_T43 l0_1 x13_1).f2).length c116_2, .int .i64 ((rd_T43 l0_1 x13_1).f3), .int .i64 ((rd_T43 l0_1 x13_1).f4), .int .i64 ((rd_T43 l0_1 x13_1).f5)] 49 (0, 0)) (kW BK117) hb); have n2_ := AM (bT bQ hb); clear BK115; clear BK117; clear HB; have BK115 := n0_; have BK117 := n1_; have HB := n2_; clear n0_ n1_ n2_; (try clear hb); (try clear hb2); (try clear hk); (try clear hi)))
      (try simp only [Act.put, List.setIfInBounds_toArray, List.set_cons_zero, List.set_cons_succ])
      go_cut [30] (fun v30 wc => ∃ (kq : Nat) (x30_23 : Bool), v30 = .bool x30_23 ∧ Aside0 (table_contribs.j1 kq l0_1 (l0_1.length : Int) x13_1 x30_23 l0_0 l0_1 l0_2 a0_3 a0_4 ((rd_T43 l0_1 x13_1).f0) ((rd_T43 l0_1 x13_1).f1) ((rd_T43 l0_1 x13_1).f2) ((rd_T43 l0_1 x13_1).f3) ((rd_T43 l0_1 x13_1).f4) ((rd_T43 l0_1 x13_1).f5) = some r) ∧ Aside0 (kq ≤ k1) ∧ Aside0 (wc.heap[gb115]? = some (.cells #[(.slice A0_0 l0_0.length c0_0), (.slice (some ad116) l0_1.length c0_1), (.slice A0_2 l0_2.length c0_2), .int .i64 a0_3, .int .i64 a0_4] 26 (0, 0))) ∧ Aside0 (wc.heap[gb117]? = some (.cells #[.string ((rd_T43 l0_1 x13_1).f0), .int .i64 ((rd_T43 l0_1 x13_1).f1), (.slice A116_2 ((rd_T43 l0_1 x13_1).f2).length c116_2), .int .i64 ((rd_T43 l0_1 x13_1).f3), .int .i64 ((rd_T43 l0_1 x13_1).f4), .int .i64 ((rd_T43 l0_1 x13_1).f5)] 49 (0, 0))) ∧ Aside0 (Below w.heap.size w wc))
      case first =>
        have H := HC24.out
        clear HC24
        by_cases c33 : ((rd_T43 l0_1 x13_1).f1) = 1
        · rw [if_pos c33] at H
          have c33b0 : (((rd_T43 l0_1 x13_1).f1) == 1) = true := beq_iff_eq.mpr c33
          have c33b1 : (((rd_T43 l0_1 x13_1).f1) != 1) = false := bne_eq_false_iff_eq.mpr c33
          clear c33
          (first | rw [c33b0] | (simp only [i64_w, i32_w]; rw [c33b0]) | skip)
          have H' := AM H
          clear H
          have hnb34 := NB117_115.out
          have hnc34 := NB115_117.out
          obtain ⟨_, _, _, _, _, _, _, _, _, _, _, _⟩ := bX6 BK117.out
          go_wp2
          go_meet
          case rel => exact ⟨_, (false), (by first | rfl | (simp; done) | (simp [*]; done)), H', ⟨by have := HK1.out; first | omega | exact Nat.le_refl _⟩, ⟨by (with_reducible repeat (first | refine kD ?_ _ | refine k1_ ?_ | refine kA ?_ _)); exact BK115.out⟩, ⟨by (with_reducible repeat (first | refine kD ?_ _ | refine k1_ ?_ | refine kA ?_ _)); exact BK117.out⟩, ⟨by repeat (first | (with_reducible first | exact HB.out | apply bA | apply bD | apply b1 | refine bS ?_ GE115.out | refine bS ?_ GE117.out) | exact HB.out)⟩⟩
        rw [if_neg c33] at H
        have c33b0 : (((rd_T43 l0_1 x13_1).f1) == 1) = false := beq_eq_false_iff_ne.mpr c33
        have c33b1 : (((rd_T43 l0_1 x13_1).f1) != 1) = true := bne_iff_ne.mpr c33
        (first | rw [c33b0] | (simp only [i64_w, i32_w]; rw [c33b0]) | skip)
        have H' := AM H
        clear H
        have hnb36 := NB117_115.out
        have hnc36 := NB115_117.out
        obtain ⟨_, _, _, _, _, _, _, _, _, _, _, _⟩ := bX6 BK117.out
        go_wp2
        go_meet
        case rel => exact ⟨_, ((((rd_T43 l0_1 x13_1).f1) != 2)), (by first | rfl | (simp; done) | (simp [*]; done)), H', ⟨by have := HK1.out; first | omega | exact Nat.le_refl _⟩, ⟨by (with_reducible repeat (first | refine kD ?_ _ | refine k1_ ?_ | refine kA ?_ _)); exact BK115.out⟩, ⟨by (with_reducible repeat (first | refine kD ?_ _ | refine k1_ ?_ | refine kA ?_ _)); exact BK117.out⟩, ⟨by repeat (first | (with_reducible first | exact HB.out | apply bA | apply bD | apply b1 | refine bS ?_ GE115.out | refine bS ?_ GE117.out) | exact HB.out)⟩⟩
      case rest =>
        clear HC24
        obtain ⟨kq, x30_23, rfl, HA, HJ23, BK115, BK117, HB⟩ := hcut
        cases kq with
        | zero => exact absurd HA.out (by simp [table_contribs.j1])
        | succ kj23 =>
          have H := HA.out
          clear HA
          simp only [table_contribs.j1] at H
          have HC38 := AM H
          clear H
          go_upto_if 30 with (fail)
          go_cut [30] (fun v30 wc => ∃ (kq : Nat) (x30_37 : Bool), v30 = .bool x30_37 ∧ Aside0 (table_contribs.j2 kq l0_1 (l0_1.length : Int) x13_1 x30_37 l0_0 l0_1 l0_2 a0_3 a0_4 ((rd_T43 l0_1 x13_1).f0) ((rd_T43 l0_1 x13_1).f1) ((rd_T43 l0_1 x13_1).f2) ((rd_T43 l0_1 x13_1).f3) ((rd_T43 l0_1 x13_1).f4) ((rd_T43 l0_1 x13_1).f5) = some r) ∧ Aside0 (kq ≤ kj23) ∧ Aside0 (wc.heap[gb115]? = some (.cells #[(.slice A0_0 l0_0.length c0_0), (.slice (some ad116) l0_1.length c0_1), (.slice A0_2 l0_2.length c0_2), .int .i64 a0_3, .int .i64 a0_4] 26 (0, 0))) ∧ Aside0 (wc.heap[gb117]? = some (.cells #[.string ((rd_T43 l0_1 x13_1).f0), .int .i64 ((rd_T43 l0_1 x13_1).f1), (.slice A116_2 ((rd_T43 l0_1 x13_1).f2).length c116_2), .int .i64 ((rd_T43 l0_1 x13_1).f3), .int .i64 ((rd_T43 l0_1 x13_1).f4), .int .i64 ((rd_T43 l0_1 x13_1).f5)] 49 (0, 0))) ∧ Aside0 (Below w.heap.size w wc))
          case first =>
            have H := HC38.out
            clear HC38
            by_cases c39 : x30_23 = true
            · subst c39
              have H1 : (table_contribs.j2 kj23 l0_1 (l0_1.length : Int) x13_1 true l0_0 l0_1 l0_2 a0_3 a0_4 ((rd_T43 l0_1 x13_1).f0) ((rd_T43 l0_1 x13_1).f1) ((rd_T43 l0_1 x13_1).f2) ((rd_T43 l0_1 x13_1).f3) ((rd_T43 l0_1 x13_1).f4) ((rd_T43 l0_1 x13_1).f5)) = some r := by rw [if_pos rfl] at H; exact H
              clear H
              have H := H1
              clear H1
              have H' := AM H
              clear H
              go_wp2
              go_meet
              case rel => exact ⟨_, (true), (by first | rfl | (simp; done) | (simp [*]; done)), H', ⟨by have := HK1.out; have := HJ23.out; first | omega | exact Nat.le_refl _⟩, ⟨by (with_reducible repeat (first | refine kD ?_ _ | refine k1_ ?_ | refine kA ?_ _)); exact BK115.out⟩, ⟨by (with_reducible repeat (first | refine kD ?_ _ | refine k1_ ?_ | refine kA ?_ _)); exact BK117.out⟩, ⟨by repeat (first | (with_reducible first | exact HB.out | apply bA | apply bD | apply b1 | refine bS ?_ GE115.out | refine bS ?_ GE117.out) | exact HB.out)⟩⟩
            replace c39 := Bool.eq_false_iff.mpr c39
            subst c39
            have H1 : ((frac_Mode.f ((rd_T43 l0_1 x13_1).f5)).bind fun t124 => (table_contribs.j2 kj23 l0_1 (l0_1.length : Int) x13_1 (!t124) l0_0 l0_1 l0_2 a0_3 a0_4 ((rd_T43 l0_1 x13_1).f0) ((rd_T43 l0_1 x13_1).f1) ((rd_T43 l0_1 x13_1).f2) ((rd_T43 l0_1 x13_1).f3) ((rd_T43 l0_1 x13_1).f4) ((rd_T43 l0_1 x13_1).f5))) = some r := by rw [if_neg (show ¬ (false = true) by decide)] at H; exact H
            clear H
            have H := H1
            clear H1
            replace H := Option.bind_eq_some_iff.mp H
            obtain ⟨t124, A400, H⟩ := H
            replace H : (table_contribs.j2 kj23 l0_1 (l0_1.length : Int) x13_1 (!t124) l0_0 l0_1 l0_2 a0_3 a0_4 ((rd_T43 l0_1 x13_1).f0) ((rd_T43 l0_1 x13_1).f1) ((rd_T43 l0_1 x13_1).f2) ((rd_T43 l0_1 x13_1).f3) ((rd_T43 l0_1 x13_1).f4) ((rd_T43 l0_1 x13_1).f5)) = some r := H
            have A40 := AM A400
            clear A400
            have H' := AM H
            clear H
            have hnb41 := NB117_115.out
            have hnc41 := NB115_117.out
            obtain ⟨_, _, _, _, _, _, _, _, _, _, _, _⟩ := bX6 BK117.out
            go_wp2_with (first | ((with_reducible refine gC (f := 21) rfl ?_); refine gL (some 41) rfl rfl Tryd.func21 (by kernel_rfl) rfl #[.int .i64 ((rd_T43 l0_1 x13_1).f5)] rfl (by (try simp only [List.map_toArray, List.map_cons, List.map_nil]); first | done | rfl | (simp only [List.length_drop, List.length_take]; rfl)) ?_; (with_reducible refine (frac_Mode.calls ((rd_T43 l0_1 x13_1).f5) t124 _ A40.out).mono ?_); rintro e w' ⟨rfl, ⟨nd, rfl⟩⟩; refine ⟨_, rfl, ?_⟩))
            go_meet
            case rel => exact ⟨_, (!t124), (by first | rfl | (simp; done) | (simp [*]; done)), H', ⟨by have := HK1.out; have := HJ23.out; first | omega | exact Nat.le_refl _⟩, ⟨by (with_reducible repeat (first | refine kD ?_ _ | refine k1_ ?_ | refine kA ?_ _)); exact BK115.out⟩, ⟨by (with_reducible repeat (first | refine kD ?_ _ | refine k1_ ?_ | refine kA ?_ _)); exact BK117.out⟩, ⟨by repeat (first | (with_reducible first | exact HB.out | apply bA | apply bD | apply b1 | refine bS ?_ GE115.out | refine bS ?_ GE117.out) | exact HB.out)⟩⟩
          case rest =>
            clear HC38
            obtain ⟨kq, x30_37, rfl, HA, HJ37, BK115, BK117, HB⟩ := hcut
            cases kq with
            | zero => exact absurd HA.out (by simp [table_contribs.j2])
            | succ kj37 =>
              have H := HA.out
              clear HA
              simp only [table_contribs.j2] at H
              by_cases c43 : x30_37 = true
              · subst c43
                have H1 : (some 1) = some r := by rw [if_pos rfl] at H; exact H
                clear H
                have H := H1
                clear H1
                obtain rfl := Option.some.inj H
                go_wp2
                go_ret
                exact ⟨by first | rfl | (simp [errW_none, errW_some] <;> rfl) | (simp [*, errW_none, errW_some] <;> rfl), by repeat (first | (with_reducible first | exact HB.out | apply bA | apply bD | apply b1 | refine bS ?_ GE115.out | refine bS ?_ GE117.out) | exact HB.out)⟩
              replace c43 := Bool.eq_false_iff.mpr c43
              subst c43
              have H1 : (if ((rd_T43 l0_1 x13_1).f3) < 0 then (table_contribs.j3 kj37 l0_1 (l0_1.length : Int) x13_1 true l0_0 l0_1 l0_2 a0_3 a0_4 ((rd_T43 l0_1 x13_1).f0) ((rd_T43 l0_1 x13_1).f1) ((rd_T43 l0_1 x13_1).f2) ((rd_T43 l0_1 x13_1).f3) ((rd_T43 l0_1 x13_1).f4) ((rd_T43 l0_1 x13_1).f5)) else (if ((rd_T43 l0_1 x13_1).f3) > 100000000000 then (table_contribs.j3 kj37 l0_1 (l0_1.length : Int) x13_1 true l0_0 l0_1 l0_2 a0_3 a0_4 ((rd_T43 l0_1 x13_1).f0) ((rd_T43 l0_1 x13_1).f1) ((rd_T43 l0_1 x13_1).f2) ((rd_T43 l0_1 x13_1).f3) ((rd_T43 l0_1 x13_1).f4) ((rd_T43 l0_1 x13_1).f5)) else (if ((rd_T43 l0_1 x13_1).f4) < 0 then (table_contribs.j3 kj37 l0_1 (l0_1.length : Int) x13_1 true l0_0 l0_1 l0_2 a0_3 a0_4 ((rd_T43 l0_1 x13_1).f0) ((rd_T43 l0_1 x13_1).f1) ((rd_T43 l0_1 x13_1).f2) ((rd_T43 l0_1 x13_1).f3) ((rd_T43 l0_1 x13_1).f4) ((rd_T43 l0_1 x13_1).f5)) else (table_contribs.j3 kj37 l0_1 (l0_1.length : Int) x13_1 (decide (((rd_T43 l0_1 x13_1).f4) > 100000000000)) l0_0 l0_1 l0_2 a0_3 a0_4 ((rd_T43 l0_1 x13_1).f0) ((rd_T43 l0_1 x13_1).f1) ((rd_T43 l0_1 x13_1).f2) ((rd_T43 l0_1 x13_1).f3) ((rd_T43 l0_1 x13_1).f4) ((rd_T43 l0_1 x13_1).f5))))) = some r := by rw [if_neg (show ¬ (false = true) by decide)] at H; exact H
              clear H
              have H := H1
              clear H1
              have HC44 := AM H
              clear H
              go_upto_region 13 with (fail)
              go_cut [43] (fun v43 wc => ∃ (kq : Nat) (x43_43 : Bool), v43 = .bool x43_43 ∧ Aside0 (table_contribs.j3 kq l0_1 (l0_1.length : Int) x13_1 x43_43 l0_0 l0_1 l0_2 a0_3 a0_4 ((rd_T43 l0_1 x13_1).f0) ((rd_T43 l0_1 x13_1).f1) ((rd_T43 l0_1 x13_1).f2) ((rd_T43 l0_1 x13_1).f3) ((rd_T43 l0_1 x13_1).f4) ((rd_T43 l0_1 x13_1).f5) = some r) ∧ Aside0 (kq ≤ kj37) ∧ Aside0 (wc.heap[gb115]? = some (.cells #[(.slice A0_0 l0_0.length c0_0), (.slice (some ad116) l0_1.length c0_1), (.slice A0_2 l0_2.length c0_2), .int .i64 a0_3, .int .i64 a0_4] 26 (0, 0))) ∧ Aside0 (wc.heap[gb117]? = some (.cells #[.string ((rd_T43 l0_1 x13_1).f0), .int .i64 ((rd_T43 l0_1 x13_1).f1), (.slice A116_2 ((rd_T43 l0_1 x13_1).f2).length c116_2), .int .i64 ((rd_T43 l0_1 x13_1).f3), .int .i64 ((rd_T43 l0_1 x13_1).f4), .int .i64 ((rd_T43 l0_1 x13_1).f5)] 49 (0, 0))) ∧ Aside0 (Below w.heap.size w wc))
              case first =>
                have H := HC44.out
                clear HC44
                by_cases c45 : ((rd_T43 l0_1 x13_1).f3) < 0
                · rw [if_pos c45] at H
                  have c45b0 := decide_eq_true c45
                  clear c45
                  (first | rw [c45b0] | (simp only [i64_w, i32_w]; rw [c45b0]) | skip)
                  have H' := AM H
                  clear H
                  have hnb46 := NB117_115.out
                  have hnc46 := NB115_117.out
                  obtain ⟨_, _, _, _, _, _, _, _, _, _, _, _⟩ := bX6 BK117.out
                  go_wp2
                  go_meet
                  case rel => exact ⟨_, (true), (by first | rfl | (simp; done) | (simp [*]; done)), H', ⟨by have := HK1.out; have := HJ23.out; have := HJ37.out; first | omega | exact Nat.le_refl _⟩, ⟨by (with_reducible repeat (first | refine kD ?_ _ | refine k1_ ?_ | refine kA ?_ _)); exact BK115.out⟩, ⟨by (with_reducible repeat (first | refine kD ?_ _ | refine k1_ ?_ | refine kA ?_ _)); exact BK117.out⟩, ⟨by repeat (first | (with_reducible first | exact HB.out | apply bA | apply bD | apply b1 | refine bS ?_ GE115.out | refine bS ?_ GE117.out) | exact HB.out)⟩⟩
                rw [if_neg c45] at H
                have c45b0 := decide_eq_false c45
                clear c45
                (first | rw [c45b0] | (simp only [i64_w, i32_w]; rw [c45b0]) | skip)
                by_cases c48 : ((rd_T43 l0_1 x13_1).f3) > 100000000000
                · rw [if_pos c48] at H
                  have c48b0 := decide_eq_true c48
                  clear c48
                  have H' := AM H
                  clear H
                  have hnb49 := NB117_115.out
                  have hnc49 := NB115_117.out
                  obtain ⟨_, _, _, _, _, _, _, _, _, _, _, _⟩ := bX6 BK117.out
                  go_wp2
                  go_meet
                  case rel => exact ⟨_, (true), (by first | rfl | (simp; done) | (simp [*]; done)), H', ⟨by have := HK1.out; have := HJ23.out; have := HJ37.out; first | omega | exact Nat.le_refl _⟩, ⟨by (with_reducible repeat (first | refine kD ?_ _ | refine k1_ ?_ | refine kA ?_ _)); exact BK115.out⟩, ⟨by (with_reducible repeat (first | refine kD ?_ _ | refine k1_ ?_ | refine kA ?_ _)); exact BK117.out⟩, ⟨by repeat (first | (with_reducible first | exact HB.out | apply bA | apply bD | apply b1 | refine bS ?_ GE115.out | refine bS ?_ GE117.out) | exact HB.out)⟩⟩
                rw [if_neg c48] at H
                have c48b0 := decide_eq_false c48
                clear c48
                by_cases c51 : ((rd_T43 l0_1 x13_1).f4) < 0
                · rw [if_pos c51] at H
                  have c51b0 := decide_eq_true c51
                  clear c51
                  have H' := AM H
                  clear H
                  have hnb52 := NB117_115.out
                  have hnc52 := NB115_117.out
                  obtain ⟨_, _, _, _, _, _, _, _, _, _, _, _⟩ := bX6 BK117.out
                  go_wp2
                  go_meet
                  case rel => exact ⟨_, (true), (by first | rfl | (simp; done) | (simp [*]; done)), H', ⟨by have := HK1.out; have := HJ23.out; have := HJ37.out; first | omega | exact Nat.le_refl _⟩, ⟨by (with_reducible repeat (first | refine kD ?_ _ | refine k1_ ?_ | refine kA ?_ _)); exact BK115.out⟩, ⟨by (with_reducible repeat (first | refine kD ?_ _ | refine k1_ ?_ | refine kA ?_ _)); exact BK117.out⟩, ⟨by repeat (first | (with_reducible first | exact HB.out | apply bA | apply bD | apply b1 | refine bS ?_ GE115.out | refine bS ?_ GE117.out) | exact HB.out)⟩⟩
                rw [if_neg c51] at H
                have c51b0 := decide_eq_false c51
                clear c51
                have H' := AM H
                clear H
                have hnb54 := NB117_115.out
                have hnc54 := NB115_117.out
                obtain ⟨_, _, _, _, _, _, _, _, _, _, _, _⟩ := bX6 BK117.out
                go_wp2
                go_meet
                case rel => exact ⟨_, (decide (((rd_T43 l0_1 x13_1).f4) > 100000000000)), (by first | rfl | (simp; done) | (simp [*]; done)), H', ⟨by have := HK1.out; have := HJ23.out; have := HJ37.out; first | omega | exact Nat.le_refl _⟩, ⟨by (with_reducible repeat (first | refine kD ?_ _ | refine k1_ ?_ | refine kA ?_ _)); exact BK115.out⟩, ⟨by (with_reducible repeat (first | refine kD ?_ _ | refine k1_ ?_ | refine kA ?_ _)); exact BK117.out⟩, ⟨by repeat (first | (with_reducible first | exact HB.out | apply bA | apply bD | apply b1 | refine bS ?_ GE115.out | refine bS ?_ GE117.out) | exact HB.out)⟩⟩
              case rest =>
                clear HC44
                obtain ⟨kq, x43_43, rfl, HA, HJ43, BK115, BK117, HB⟩ := hcut
                cases kq with
                | zero => exact absurd HA.out (by simp [table_contribs.j3])
                | succ kj43 =>
                  have H := HA.out
                  clear HA
                  simp only [table_contribs.j3] at H
                  by_cases c56 : x43_43 = true
                  · subst c56
                    have H1 : (some 1) = some r := by rw [if_pos rfl] at H; exact H
                    clear H
                    have H := H1
                    clear H1
                    obtain rfl := Option.some.inj H
                    go_wp2
                    go_ret
                    exact ⟨by first | rfl | (simp [errW_none, errW_some] <;> rfl) | (simp [*, errW_none, errW_some] <;> rfl), by repeat (first | (with_reducible first | exact HB.out | apply bA | apply bD | apply b1 | refine bS ?_ GE115.out | refine bS ?_ GE117.out) | exact HB.out)⟩
                  replace c56 := Bool.eq_false_iff.mpr c56
                  subst c56
                  have H1 : ((band_Check.f kj43 ((rd_T43 l0_1 x13_1).f2)).bind fun t125 => (if t125 = 0 then (table_contribs.l0 kj43 l0_1 (l0_1.length : Int) (wrap64 (x13_1 + 1)) l0_0 l0_1 l0_2 a0_3 a0_4) else (some t125))) = some r := by rw [if_neg (show ¬ (false = true) by decide)] at H; exact H
                  clear H
                  have H := H1
                  clear H1
                  replace H := Option.bind_eq_some_iff.mp H
                  obtain ⟨t125, A570, H⟩ := H
                  replace H : (if t125 = 0 then (table_contribs.l0 kj43 l0_1 (l0_1.length : Int) (wrap64 (x13_1 + 1)) l0_0 l0_1 l0_2 a0_3 a0_4) else (some t125)) = some r := H
                  have A57 := AM A570
                  clear A570
                  by_cases c58 : t125 = 0
                  rotate_left
                  · rw [if_neg c58] at H
                    have c58b0 : (t125 == 0) = false := beq_eq_false_iff_ne.mpr c58
                    have c58b1 : (t125 != 0) = true := bne_iff_ne.mpr c58
                    obtain rfl := Option.some.inj H
                    have hnb62 := NB117_115.out
                    have hnc62 := NB115_117.out
                    obtain ⟨_, _, _, _, _, _, _, _, _, _, _, _⟩ := bX6 BK117.out
                    go_wp2_with (first | ((with_reducible refine gC (f := 37) rfl ?_); refine gL (some 64) rfl rfl Tryd.func37 (by kernel_rfl) rfl #[.slice A116_2 ((rd_T43 l0_1 x13_1).f2).length c116_2] rfl (by (try simp only [List.map_toArray, List.map_cons, List.map_nil]); first | done | rfl | (simp only [List.length_drop, List.length_take]; rfl)) ?_; (with_reducible refine (band_Check.calls kj43 _ _ ((rd_T43 l0_1 x13_1).f2) t125 _ ?side1 ?side2 A57.out).mono ?_); (case side1 => exact cQ HR116_2 HB); (case side2 => exact HC116_2.out); rintro e w64 ⟨rfl, hb⟩; refine ⟨_, rfl, ?_⟩; have n0_ := AM (kB (g := gb115) (o := .cells #[.slice A0_0 l0_0.length c0_0, .slice (some ad116) l0_1.length c0_1, .slice A0_2 l0_2.length c0_2, .int .i64 a0_3, .int .i64 a0_4] 26 (0, 0)) (kW BK115) hb); have n1_ := AM (kB (g := gb117) (o := .cells #[.string ((rd_T43 l0_1 x13_1).f0), .int .i64 ((rd_T43 l0_1 x13_1).f1), .slice A116_2 ((rd_T43 l0_1 x13_1).f2).length c116_2, .int .i64 ((rd_T43 l0_1 x13_1).f3), .int .i64 ((rd_T43 l0_1 x13_1).f4), .int .i64 ((rd_T43 l0_1 x13_1).f5)] 49 (0, 0)) (kW BK117) hb); have n2_ := AM (bT bQ hb); clear BK115; clear BK117; clear HB; have BK115 := n0_; have BK117 := n1_; have HB := n2_; clear n0_ n1_ n2_; (try clear hb); (try clear hb2); (try clear hk); (try clear hi)))
                    go_ret
                    exact ⟨by first | rfl | (simp [errW_none, errW_some] <;> rfl) | (simp [*, errW_none, errW_some] <;> rfl), by repeat (first | (with_reducible first | exact HB.out | apply bA | apply bD | apply b1 | refine bS ?_ GE115.out | refine bS ?_ GE117.out) | exact HB.out)⟩
                  rw [if_pos c58] at H
                  have c58b0 : (t125 == 0) = true := beq_iff_eq.mpr c58
                  have c58b1 : (t125 != 0) = false := bne_eq_false_iff_eq.mpr c58
                  clear c58
                  have H' := AM H
                  clear H
                  have hnb59 := NB117_115.out
                  have hnc59 := NB115_117.out
                  obtain ⟨_, _, _, _, _, _, _, _, _, _, _, _⟩ := bX6 BK117.out
                  go_wp2_with (first | ((with_reducible refine gC (f := 37) rfl ?_); refine gL (some 64) rfl rfl Tryd.func37 (by kernel_rfl) rfl #[.slice A116_2 ((rd_T43 l0_1 x13_1).f2).length c116_2] rfl (by (try simp only [List.map_toArray, List.map_cons, List.map_nil]); first | done | rfl | (simp only [List.length_drop, List.length_take]; rfl)) ?_; (with_reducible refine (band_Check.calls kj43 _ _ ((rd_T43 l0_1 x13_1).f2) t125 _ ?side1 ?side2 A57.out).mono ?_); (case side1 => exact cQ HR116_2 HB); (case side2 => exact HC116_2.out); rintro e w61 ⟨rfl, hb⟩; refine ⟨_, rfl, ?_⟩; have n0_ := AM (kB (g := gb115) (o := .cells #[.slice A0_0 l0_0.length c0_0, .slice (some ad116) l0_1.length c0_1, .slice A0_2 l0_2.length c0_2, .int .i64 a0_3, .int .i64 a0_4] 26 (0, 0)) (kW BK115) hb); have n1_ := AM (kB (g := gb117) (o := .cells #[.string ((rd_T43 l0_1 x13_1).f0), .int .i64 ((rd_T43 l0_1 x13_1).f1), .slice A116_2 ((rd_T43 l0_1 x13_1).f2).length c116_2, .int .i64 ((rd_T43 l0_1 x13_1).f3), .int .i64 ((rd_T43 l0_1 x13_1).f4), .int .i64 ((rd_T43 l0_1 x13_1).f5)] 49 (0, 0)) (kW BK117) hb); have n2_ := AM (bT bQ hb); clear BK115; clear BK117; clear HB; have BK115 := n0_; have BK117 := n1_; have HB := n2_; clear n0_ n1_ n2_; (try clear hb); (try clear hb2); (try clear hk); (try clear hi)))
                  go_roundg kj43
                  case measure => have := HK1.out; have := HJ23.out; have := HJ37.out; have := HJ43.out; omega
                  case rel => exact ⟨(wrap64 (x13_1 + 1)), (by first | rfl | (simp; done) | (simp [*]; done)), H', ⟨by have := HK1.out; have := HJ23.out; have := HJ37.out; have := HJ43.out; omega⟩, ⟨by (with_reducible repeat (first | refine kD ?_ _ | refine k1_ ?_ | refine kA ?_ _)); exact BK115.out⟩, ⟨by repeat (first | (with_reducible first | exact HB.out | apply bA | apply bD | apply b1 | refine bS ?_ GE115.out | refine bS ?_ GE117.out) | exact HB.out)⟩⟩
end Go.Proofs.YtdllkibfikcfbaaDoor.K
