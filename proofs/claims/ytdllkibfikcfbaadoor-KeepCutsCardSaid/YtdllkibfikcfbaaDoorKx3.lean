-- by a program of this session, over the kit's printer
import Derived.Test.YtdllkibfikcfbaaDoorKx0
import Derived.Test.YtdllkibfikcfbaaDoorKx2
namespace Go.Proofs.YtdllkibfikcfbaaDoor.K
open Go.RowKit Go.Proofs.YtdllkibfikcfbaaDoorW.PrintWords Go.Proofs.YtdllkibfikcfbaaDoorW.PrintLast Go.Proofs.YtdllkibfikcfbaaDoorW.PrintMore
attribute [local go_sem] max2_int min2_int max_two min_two max_three min_three max_four min_four   -- for this text's walks alone
set_option linter.unusedVariables false
set_option linter.unusedSimpArgs false

/-! ### api_Contrib_39: function 39 -/
def api_Contrib_39.l0 : Nat → List (S43) → ByteArray → Int → Int → Option (Int)
  | 0, _, _, _, _ => none
  | k + 1, x0, x1, x7, x8 => if x8 < x7 then (if 0 ≤ x8 then (if x8 < (x0.length : Int) then ((table_contribs_1.f ((rd_T43 x0 x8).f0) ((rd_T43 x0 x8).f1) ((rd_T43 x0 x8).f2) ((rd_T43 x0 x8).f3) ((rd_T43 x0 x8).f4) ((rd_T43 x0 x8).f5) x1).bind fun t113 => (if t113 = true then (some x8) else (api_Contrib_39.l0 k x0 x1 x7 (wrap64 (x8 + 1))))) else (none)) else (none)) else (some (-1))
def api_Contrib_39.f (k : Nat) (l0 : List (S43)) (a1 : ByteArray) : Option (Int) := api_Contrib_39.l0 k l0 a1 (l0.length : Int) 0
set_option maxHeartbeats 8000000 in
set_option maxRecDepth 100000 in
theorem api_Contrib_39.calls (k : Nat) (A0 : Option Addr) (c0 : Nat) (l0 : List (S43)) (a1 : ByteArray) (r : Int) (w : World) (hr0 : Kd.C k43 w A0 l0.length l0) (hc0 : l0.length ≤ c0) (g : Nat) (hgb : w.cell? ⟨g, 0, none⟩ = some (.string a1)) (h : api_Contrib_39.f k l0 a1 = some r) :
    Calls Tryd.prog 45 #[.slice A0 l0.length c0, .func (.func 40) #[] #[.pointer (some ⟨g, 0, none⟩)]] w fun e w' => e = .returned (.int .i64 r) ∧ Below w.heap.size w w' := by
  have hu43 := Tryd.underlying49
  have HR0 := AM hr0
  have HC0 := AM hc0
  clear hr0 hc0
  have HB := AM (Below.refl w.heap.size w)
  have H : (api_Contrib_39.l0 k l0 a1 (l0.length : Int) 0) = some r := h
  clear h
  have H' := AM H
  clear H
  have HGB := AM hgb
  clear hgb
  go_enter Tryd.func45, Tryd.ntmps45
  go_wp2
  go_loopg [8] k (fun kq v8 w' => ∃ (x8_1 : Int), v8 = .int .i64 x8_1 ∧ Aside0 (api_Contrib_39.l0 kq l0 a1 (l0.length : Int) x8_1 = some r) ∧ Aside0 (kq ≤ k) ∧ Aside0 (Below w.heap.size w w'))
  case atStart => exact ⟨(0), (by first | rfl | (simp; done) | (simp [*]; done)), H', ⟨Nat.le_refl _⟩, ⟨by repeat (first | (with_reducible first | exact HB.out | apply bA | apply bD | apply b1) | exact HB.out)⟩⟩
  case round =>
    clear H'
    obtain ⟨x8_1, rfl, HA, HK1, HB⟩ := hrel
    cases gk with
    | zero => exact absurd HA.out (by simp [api_Contrib_39.l0])
    | succ k1 =>
      have H := HA.out
      clear HA
      simp only [api_Contrib_39.l0] at H
      by_cases c3 : x8_1 < (l0.length : Int)
      rotate_left
      · rw [if_neg c3] at H
        have c3b0 := decide_eq_false c3
        clear c3
        obtain rfl := Option.some.inj H
        go_wp2
        go_ret
        exact ⟨by first | rfl | (simp [errW_none, errW_some] <;> rfl) | (simp [*, errW_none, errW_some] <;> rfl), by repeat (first | (with_reducible first | exact HB.out | apply bA | apply bD | apply b1) | exact HB.out)⟩
      rw [if_pos c3] at H
      have c3b0 := decide_eq_true c3
      clear c3
      by_cases c4 : 0 ≤ x8_1
      rotate_left
      · rw [if_neg c4] at H
        exact absurd H (by simp)
      rw [if_pos c4] at H
      have c4b0 := decide_eq_true c4
      clear c4
      by_cases c5 : x8_1 < (l0.length : Int)
      rotate_left
      · rw [if_neg c5] at H
        exact absurd H (by simp)
      rw [if_pos c5] at H
      have c5b0 := decide_eq_true c5
      clear c5
      replace H := Option.bind_eq_some_iff.mp H
      obtain ⟨t113, A60, H⟩ := H
      replace H : (if t113 = true then (some x8_1) else (api_Contrib_39.l0 k1 l0 a1 (l0.length : Int) (wrap64 (x8_1 + 1)))) = some r := H
      have A6 := AM A60
      clear A60
      by_cases c7 : t113 = true
      · subst c7
        have H1 : (some x8_1) = some r := by rw [if_pos rfl] at H; exact H
        clear H
        have H := H1
        clear H1
        obtain rfl := Option.some.inj H
        have p112 : 0 ≤ (x8_1 : Int) := of_decide_eq_true (by first | (with_reducible assumption) | assumption)
        have q112 : x8_1 < (l0.length : Int) := of_decide_eq_true (by first | (with_reducible assumption) | assumption)
        obtain ⟨ad112, A112_2, c112_2, e112, hx112_0, hx112_1, hx112_2, hx112_3, hx112_4, hx112_5, hl112_2, hi112_2⟩ := at_T43 HR0.out x8_1 p112 q112
        cases e112
        replace hx112_0 := (HB.out.cell (bL w _ hx112_0)).trans hx112_0
        replace hx112_1 := (HB.out.cell (bL w _ hx112_1)).trans hx112_1
        replace hx112_2 := (HB.out.cell (bL w _ hx112_2)).trans hx112_2
        replace hx112_3 := (HB.out.cell (bL w _ hx112_3)).trans hx112_3
        replace hx112_4 := (HB.out.cell (bL w _ hx112_4)).trans hx112_4
        replace hx112_5 := (HB.out.cell (bL w _ hx112_5)).trans hx112_5
        have HR112_2 := AM hi112_2
        have HC112_2 := AM hl112_2
        clear hi112_2 hl112_2
        replace p112 := eq_true p112
        replace q112 := eq_true q112
        go_wp2_with (first | (go_at_call 40; (with_reducible refine (table_contribs_1.calls ((rd_T43 l0 x8_1).f0) ((rd_T43 l0 x8_1).f1) _ _ ((rd_T43 l0 x8_1).f2) ((rd_T43 l0 x8_1).f3) ((rd_T43 l0 x8_1).f4) ((rd_T43 l0 x8_1).f5) a1 true _ ?side1 ?side2 g ?sideg A6.out).mono ?_); (case side1 => exact cQ HR112_2 HB); (case side2 => exact HC112_2.out); (case sideg => exact (HB.out.cell (bL w _ HGB.out)).trans HGB.out); rintro e w8 ⟨rfl, hb⟩; have n0_ := AM (bT bQ hb); clear HB; have HB := n0_; clear n0_; (try clear hb); (try clear hb2); (try clear hk); (try clear hi)))
        go_ret
        exact ⟨by first | rfl | (simp [errW_none, errW_some] <;> rfl) | (simp [*, errW_none, errW_some] <;> rfl), by repeat (first | (with_reducible first | exact HB.out | apply bA | apply bD | apply b1) | exact HB.out)⟩
      replace c7 := Bool.eq_false_iff.mpr c7
      subst c7
      have H1 : (api_Contrib_39.l0 k1 l0 a1 (l0.length : Int) (wrap64 (x8_1 + 1))) = some r := by rw [if_neg (show ¬ (false = true) by decide)] at H; exact H
      clear H
      have H := H1
      clear H1
      have H' := AM H
      clear H
      have p112 : 0 ≤ (x8_1 : Int) := of_decide_eq_true (by first | (with_reducible assumption) | assumption)
      have q112 : x8_1 < (l0.length : Int) := of_decide_eq_true (by first | (with_reducible assumption) | assumption)
      obtain ⟨ad112, A112_2, c112_2, e112, hx112_0, hx112_1, hx112_2, hx112_3, hx112_4, hx112_5, hl112_2, hi112_2⟩ := at_T43 HR0.out x8_1 p112 q112
      cases e112
      replace hx112_0 := (HB.out.cell (bL w _ hx112_0)).trans hx112_0
      replace hx112_1 := (HB.out.cell (bL w _ hx112_1)).trans hx112_1
      replace hx112_2 := (HB.out.cell (bL w _ hx112_2)).trans hx112_2
      replace hx112_3 := (HB.out.cell (bL w _ hx112_3)).trans hx112_3
      replace hx112_4 := (HB.out.cell (bL w _ hx112_4)).trans hx112_4
      replace hx112_5 := (HB.out.cell (bL w _ hx112_5)).trans hx112_5
      have HR112_2 := AM hi112_2
      have HC112_2 := AM hl112_2
      clear hi112_2 hl112_2
      replace p112 := eq_true p112
      replace q112 := eq_true q112
      go_wp2_with (first | (go_at_call 40; (with_reducible refine (table_contribs_1.calls ((rd_T43 l0 x8_1).f0) ((rd_T43 l0 x8_1).f1) _ _ ((rd_T43 l0 x8_1).f2) ((rd_T43 l0 x8_1).f3) ((rd_T43 l0 x8_1).f4) ((rd_T43 l0 x8_1).f5) a1 false _ ?side1 ?side2 g ?sideg A6.out).mono ?_); (case side1 => exact cQ HR112_2 HB); (case side2 => exact HC112_2.out); (case sideg => exact (HB.out.cell (bL w _ HGB.out)).trans HGB.out); rintro e w9 ⟨rfl, hb⟩; have n0_ := AM (bT bQ hb); clear HB; have HB := n0_; clear n0_; (try clear hb); (try clear hb2); (try clear hk); (try clear hi)))
      go_roundg k1
      case measure => have := HK1.out; omega
      case rel => exact ⟨(wrap64 (x8_1 + 1)), (by first | rfl | (simp; done) | (simp [*]; done)), H', ⟨by have := HK1.out; omega⟩, ⟨by repeat (first | (with_reducible first | exact HB.out | apply bA | apply bD | apply b1) | exact HB.out)⟩⟩
/-! ### api_Contrib_34: function 34 -/
def api_Contrib_34.f (k : Nat) (l0 : List (S43)) (a1 : ByteArray) : Option (Bool) := (api_Contrib_39.f k l0 a1).bind fun t114 => (some (decide (t114 ≥ 0)))
set_option maxHeartbeats 8000000 in
set_option maxRecDepth 100000 in
theorem api_Contrib_34.calls (k : Nat) (A0 : Option Addr) (c0 : Nat) (l0 : List (S43)) (a1 : ByteArray) (r : Bool) (w : World) (hr0 : Kd.C k43 w A0 l0.length l0) (hc0 : l0.length ≤ c0) (g : Nat) (hgb : w.cell? ⟨g, 0, none⟩ = some (.string a1)) (h : api_Contrib_34.f k l0 a1 = some r) :
    Calls Tryd.prog 39 #[.slice A0 l0.length c0, .func (.func 40) #[] #[.pointer (some ⟨g, 0, none⟩)]] w fun e w' => e = .returned (.bool r) ∧ Below w.heap.size w w' := by
  have HR0 := AM hr0
  have HC0 := AM hc0
  clear hr0 hc0
  have HB := AM (Below.refl w.heap.size w)
  have H : ((api_Contrib_39.f k l0 a1).bind fun t114 => (some (decide (t114 ≥ 0)))) = some r := h
  clear h
  replace H := Option.bind_eq_some_iff.mp H
  obtain ⟨t114, A30, H⟩ := H
  replace H : (some (decide (t114 ≥ 0))) = some r := H
  have A3 := AM A30
  clear A30
  obtain rfl := Option.some.inj H
  have HGB := AM hgb
  clear hgb
  go_enter Tryd.func39, Tryd.ntmps39
  go_wp2_with (first | ((with_reducible refine gC (f := 45) rfl ?_); refine gL (some 7) rfl rfl Tryd.func45 (by kernel_rfl) rfl #[.slice A0 l0.length c0, .func (.func 40) #[] #[.pointer (some ⟨g, 0, none⟩)]] rfl (by (try simp only [List.map_toArray, List.map_cons, List.map_nil]); first | done | rfl | (simp only [List.length_drop, List.length_take]; rfl)) ?_; (with_reducible refine (api_Contrib_39.calls k _ _ l0 a1 t114 _ ?side1 ?side2 g ?sideg A3.out).mono ?_); (case side1 => repeat (first | exact HR0.out | (with_reducible refine cA ?_ _) | (with_reducible refine cD ?_ _) | (with_reducible refine c1_ ?_))); (case side2 => exact HC0.out); (case sideg => exact (HB.out.cell (bL w _ HGB.out)).trans HGB.out); rintro e w4 ⟨rfl, hb⟩; refine ⟨_, rfl, ?_⟩; have n0_ := AM (bT bQ hb); clear HB; have HB := n0_; clear n0_; (try clear hb); (try clear hb2); (try clear hk); (try clear hi)))
  go_ret
  exact ⟨by first | rfl | (simp [errW_none, errW_some] <;> rfl) | (simp [*, errW_none, errW_some] <;> rfl), by repeat (first | (with_reducible first | exact HB.out | apply bA | apply bD | apply b1) | exact HB.out)⟩

end Go.Proofs.YtdllkibfikcfbaaDoor.K
