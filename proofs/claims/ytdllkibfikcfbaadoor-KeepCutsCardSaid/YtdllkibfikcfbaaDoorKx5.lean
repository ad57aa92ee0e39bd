-- by a program of this session, over the kit's printer
import Derived.Test.YtdllkibfikcfbaaDoorKx0
import Derived.Test.YtdllkibfikcfbaaDoorKx2
namespace Go.Proofs.YtdllkibfikcfbaaDoor.K
open Go.RowKit Go.Proofs.YtdllkibfikcfbaaDoorW.PrintWords Go.Proofs.YtdllkibfikcfbaaDoorW.PrintLast Go.Proofs.YtdllkibfikcfbaaDoorW.PrintMore
attribute [local go_sem] max2_int min2_int max_two min_two max_three min_three max_four min_four   -- for this text's walks alone
set_option linter.unusedVariables false
set_option linter.unusedSimpArgs false

/-! ### table_kinds_1: function 37 -/
def table_kinds_1.f (a0_0 : ByteArray) (a0_1 : Int) (a0_2 : Int) (a0_3 : Int) (a1 : ByteArray) : Option (Bool) := some (a0_0.toList == a1.toList)
set_option maxHeartbeats 8000000 in
set_option maxRecDepth 100000 in
theorem table_kinds_1.calls (a0_0 : ByteArray) (a0_1 : Int) (a0_2 : Int) (a0_3 : Int) (a1 : ByteArray) (r : Bool) (w : World) (g : Nat) (hgb : w.cell? ⟨g, 0, none⟩ = some (.string a1)) (h : table_kinds_1.f a0_0 a0_1 a0_2 a0_3 a1 = some r) :
    Calls Tryd.prog 42 #[.agg #[.string a0_0, .int .i64 a0_1, .int .i64 a0_2, .int .i64 a0_3], .pointer (some ⟨g, 0, none⟩)] w fun e w' => e = .returned (.bool r) ∧ Below w.heap.size w w' := by
  have hu58 := Tryd.underlying61
  have HB := AM (Below.refl w.heap.size w)
  have H : (some (a0_0.toList == a1.toList)) = some r := h
  clear h
  obtain rfl := Option.some.inj H
  have HGB := AM hgb
  clear hgb
  go_enter Tryd.func42, Tryd.ntmps42
  go_wp2_with (first | ((with_reducible refine gD (N := 2) rfl ?_); refine bE ?hg (N := 2) ?hd (cs := #[.string a0_0, .int .i64 a0_1, .int .i64 a0_2, .int .i64 a0_3]) (t := 61) ?hr ?_; (case hd => rfl); (case hg => rfl); (case hr => first | (go_simp; done) | (go_simp; rfl)); intro gb126 hg w3 hbox hb; have hcap : w3.cell? ⟨g, 0, none⟩ = some (.string a1) := (hb.cell (bL _ _ HGB.out)).trans HGB.out; have n0_ := AM (bT bQ hb); have n1_ := AM (hbox); have n2_ := AM ((by rw [hg]; exact (bZ bQ) : w.heap.size ≤ gb126)); have n3_ := AM ((by rw [hg]; exact (bZ bQ) : w.heap.size ≤ gb126)); clear HB; have HB := n0_; have BK126 := n1_; have GW126 := n2_; have GE126 := n3_; clear n0_ n1_ n2_ n3_; clear hb hbox hg; obtain ⟨_, _, _, _, _, _, _, _⟩ := bX4 BK126.out))
  go_ret
  exact ⟨by first | rfl | (simp [errW_none, errW_some] <;> rfl) | (simp [*, errW_none, errW_some] <;> rfl), by repeat (first | (with_reducible first | exact HB.out | apply bA | apply bD | apply b1 | refine bS ?_ GE126.out) | exact HB.out)⟩
/-! ### api_Kind_40: function 40 -/
def api_Kind_40.l0 : Nat → List (S58) → ByteArray → Int → Int → Option (Int)
  | 0, _, _, _, _ => none
  | k + 1, x0, x1, x7, x8 => if x8 < x7 then (if 0 ≤ x8 then (if x8 < (x0.length : Int) then ((table_kinds_1.f ((rd_T58 x0 x8).f0) ((rd_T58 x0 x8).f1) ((rd_T58 x0 x8).f2) ((rd_T58 x0 x8).f3) x1).bind fun t128 => (if t128 = true then (some x8) else (api_Kind_40.l0 k x0 x1 x7 (wrap64 (x8 + 1))))) else (none)) else (none)) else (some (-1))
def api_Kind_40.f (k : Nat) (l0 : List (S58)) (a1 : ByteArray) : Option (Int) := api_Kind_40.l0 k l0 a1 (l0.length : Int) 0
set_option maxHeartbeats 8000000 in
set_option maxRecDepth 100000 in
theorem api_Kind_40.calls (k : Nat) (A0 : Option Addr) (c0 : Nat) (l0 : List (S58)) (a1 : ByteArray) (r : Int) (w : World) (hr0 : Kd.C k58 w A0 l0.length l0) (hc0 : l0.length ≤ c0) (g : Nat) (hgb : w.cell? ⟨g, 0, none⟩ = some (.string a1)) (h : api_Kind_40.f k l0 a1 = some r) :
    Calls Tryd.prog 46 #[.slice A0 l0.length c0, .func (.func 42) #[] #[.pointer (some ⟨g, 0, none⟩)]] w fun e w' => e = .returned (.int .i64 r) ∧ Below w.heap.size w w' := by
  have hu58 := Tryd.underlying61
  have HR0 := AM hr0
  have HC0 := AM hc0
  clear hr0 hc0
  have HB := AM (Below.refl w.heap.size w)
  have H : (api_Kind_40.l0 k l0 a1 (l0.length : Int) 0) = some r := h
  clear h
  have H' := AM H
  clear H
  have HGB := AM hgb
  clear hgb
  go_enter Tryd.func46, Tryd.ntmps46
  go_wp2
  go_loopg [8] k (fun kq v8 w' => ∃ (x8_1 : Int), v8 = .int .i64 x8_1 ∧ Aside0 (api_Kind_40.l0 kq l0 a1 (l0.length : Int) x8_1 = some r) ∧ Aside0 (kq ≤ k) ∧ Aside0 (Below w.heap.size w w'))
  case atStart => exact ⟨(0), (by first | rfl | (simp; done) | (simp [*]; done)), H', ⟨Nat.le_refl _⟩, ⟨by repeat (first | (with_reducible first | exact HB.out | apply bA | apply bD | apply b1) | exact HB.out)⟩⟩
  case round =>
    clear H'
    obtain ⟨x8_1, rfl, HA, HK1, HB⟩ := hrel
    cases gk with
    | zero => exact absurd HA.out (by simp [api_Kind_40.l0])
    | succ k1 =>
      have H := HA.out
      clear HA
      simp only [api_Kind_40.l0] at H
      by_cases c3 : x8_1 < (l0.length : Int)
      rotate_left
      · rw [if_neg c3] at H
        have c3b0 := decide_eq_false c3
        clear c3
        obtain rfl := Option.some.inj H
        go_wp2
        go_ret
        exact ⟨by first | rfl | (simp [errW_none, errW_some] <;> rfl) | (simp [*, errW_none, errW_some] <;> rfl), by repeat (first | (with_reducible first | exact HB.out | apply bA | apply bD | apply b1) | exact HB.out)⟩
      rw [if_pos c3] at H
      have c3b0 := decide_eq_true c3
      clear c3
      by_cases c4 : 0 ≤ x8_1
      rotate_left
      · rw [if_neg c4] at H
        exact absurd H (by simp)
      rw [if_pos c4] at H
      have c4b0 := decide_eq_true c4
      clear c4
      by_cases c5 : x8_1 < (l0.length : Int)
      rotate_left
      · rw [if_neg c5] at H
        exact absurd H (by simp)
      rw [if_pos c5] at H
      have c5b0 := decide_eq_true c5
      clear c5
      replace H := Option.bind_eq_some_iff.mp H
      obtain ⟨t128, A60, H⟩ := H
      replace H : (if t128 = true then (some x8_1) else (api_Kind_40.l0 k1 l0 a1 (l0.length : Int) (wrap64 (x8_1 + 1)))) = some r := H
      have A6 := AM A60
      clear A60
      by_cases c7 : t128 = true
      · subst c7
        have H1 : (some x8_1) = some r := by rw [if_pos rfl] at H; exact H
        clear H
        have H := H1
        clear H1
        obtain rfl := Option.some.inj H
        have p127 : 0 ≤ (x8_1 : Int) := of_decide_eq_true (by first | (with_reducible assumption) | assumption)
        have q127 : x8_1 < (l0.length : Int) := of_decide_eq_true (by first | (with_reducible assumption) | assumption)
        obtain ⟨ad127, e127, hx127_0, hx127_1, hx127_2, hx127_3⟩ := at_T58 HR0.out x8_1 p127 q127
        cases e127
        replace hx127_0 := (HB.out.cell (bL w _ hx127_0)).trans hx127_0
        replace hx127_1 := (HB.out.cell (bL w _ hx127_1)).trans hx127_1
        replace hx127_2 := (HB.out.cell (bL w _ hx127_2)).trans hx127_2
        replace hx127_3 := (HB.out.cell (bL w _ hx127_3)).trans hx127_3
        replace p127 := eq_true p127
        replace q127 := eq_true q127
        go_wp2_with (first | (go_at_call 42; (with_reducible refine (table_kinds_1.calls ((rd_T58 l0 x8_1).f0) ((rd_T58 l0 x8_1).f1) ((rd_T58 l0 x8_1).f2) ((rd_T58 l0 x8_1).f3) a1 true _ g ?sideg A6.out).mono ?_); (case sideg => exact (HB.out.cell (bL w _ HGB.out)).trans HGB.out); rintro e w8 ⟨rfl, hb⟩; have n0_ := AM (bT bQ hb); clear HB; have HB := n0_; clear n0_; (try clear hb); (try clear hb2); (try clear hk); (try clear hi)))
        go_ret
        exact ⟨by first | rfl | (simp [errW_none, errW_some] <;> rfl) | (simp [*, errW_none, errW_some] <;> rfl), by repeat (first | (with_reducible first | exact HB.out | apply bA | apply bD | apply b1) | exact HB.out)⟩
      replace c7 := Bool.eq_false_iff.mpr c7
      subst c7
      have H1 : (api_Kind_40.l0 k1 l0 a1 (l0.length : Int) (wrap64 (x8_1 + 1))) = some r := by rw [if_neg (show ¬ (false = true) by decide)] at H; exact H
      clear H
      have H := H1
      clear H1
      have H' := AM H
      clear H
      have p127 : 0 ≤ (x8_1 : Int) := of_decide_eq_true (by first | (with_reducible assumption) | assumption)
      have q127 : x8_1 < (l0.length : Int) := of_decide_eq_true (by first | (with_reducible assumption) | assumption)
      obtain ⟨ad127, e127, hx127_0, hx127_1, hx127_2, hx127_3⟩ := at_T58 HR0.out x8_1 p127 q127
      cases e127
      replace hx127_0 := (HB.out.cell (bL w _ hx127_0)).trans hx127_0
      replace hx127_1 := (HB.out.cell (bL w _ hx127_1)).trans hx127_1
      replace hx127_2 := (HB.out.cell (bL w _ hx127_2)).trans hx127_2
      replace hx127_3 := (HB.out.cell (bL w _ hx127_3)).trans hx127_3
      replace p127 := eq_true p127
      replace q127 := eq_true q127
      go_wp2_with (first | (go_at_call 42; (with_reducible refine (table_kinds_1.calls ((rd_T58 l0 x8_1).f0) ((rd_T58 l0 x8_1).f1) ((rd_T58 l0 x8_1).f2) ((rd_T58 l0 x8_1).f3) a1 false _ g ?sideg A6.out).mono ?_); (case sideg => exact (HB.out.cell (bL w _ HGB.out)).trans HGB.out); rintro e w9 ⟨rfl, hb⟩; have n0_ := AM (bT bQ hb); clear HB; have HB := n0_; clear n0_; (try clear hb); (try clear hb2); (try clear hk); (try clear hi)))
      go_roundg k1
      case measure => have := HK1.out; omega
      case rel => exact ⟨(wrap64 (x8_1 + 1)), (by first | rfl | (simp; done) | (simp [*]; done)), H', ⟨by have := HK1.out; omega⟩, ⟨by repeat (first | (with_reducible first | exact HB.out | apply bA | apply bD | apply b1) | exact HB.out)⟩⟩
/-! ### api_Kind_36: function 36 -/
def api_Kind_36.f (k : Nat) (l0 : List (S58)) (a1 : ByteArray) : Option (Bool) := (api_Kind_40.f k l0 a1).bind fun t129 => (some (decide (t129 ≥ 0)))
set_option maxHeartbeats 8000000 in
set_option maxRecDepth 100000 in
theorem api_Kind_36.calls (k : Nat) (A0 : Option Addr) (c0 : Nat) (l0 : List (S58)) (a1 : ByteArray) (r : Bool) (w : World) (hr0 : Kd.C k58 w A0 l0.length l0) (hc0 : l0.length ≤ c0) (g : Nat) (hgb : w.cell? ⟨g, 0, none⟩ = some (.string a1)) (h : api_Kind_36.f k l0 a1 = some r) :
    Calls Tryd.prog 41 #[.slice A0 l0.length c0, .func (.func 42) #[] #[.pointer (some ⟨g, 0, none⟩)]] w fun e w' => e = .returned (.bool r) ∧ Below w.heap.size w w' := by
  have HR0 := AM hr0
  have HC0 := AM hc0
  clear hr0 hc0
  have HB := AM (Below.refl w.heap.size w)
  have H : ((api_Kind_40.f k l0 a1).bind fun t129 => (some (decide (t129 ≥ 0)))) = some r := h
  clear h
  replace H := Option.bind_eq_some_iff.mp H
  obtain ⟨t129, A30, H⟩ := H
  replace H : (some (decide (t129 ≥ 0))) = some r := H
  have A3 := AM A30
  clear A30
  obtain rfl := Option.some.inj H
  have HGB := AM hgb
  clear hgb
  go_enter Tryd.func41, Tryd.ntmps41
  go_wp2_with (first | ((with_reducible refine gC (f := 46) rfl ?_); refine gL (some 7) rfl rfl Tryd.func46 (by kernel_rfl) rfl #[.slice A0 l0.length c0, .func (.func 42) #[] #[.pointer (some ⟨g, 0, none⟩)]] rfl (by (try simp only [List.map_toArray, List.map_cons, List.map_nil]); first | done | rfl | (simp only [List.length_drop, List.length_take]; rfl)) ?_; (with_reducible refine (api_Kind_40.calls k _ _ l0 a1 t129 _ ?side1 ?side2 g ?sideg A3.out).mono ?_); (case side1 => repeat (first | exact HR0.out | (with_reducible refine cA ?_ _) | (with_reducible refine cD ?_ _) | (with_reducible refine c1_ ?_))); (case side2 => exact HC0.out); (case sideg => exact (HB.out.cell (bL w _ HGB.out)).trans HGB.out); rintro e w4 ⟨rfl, hb⟩; refine ⟨_, rfl, ?_⟩; have n0_ := AM (bT bQ hb); clear HB; have HB := n0_; clear n0_; (try clear hb); (try clear hb2); (try clear hk); (try clear hi)))
  go_ret
  exact ⟨by first | rfl | (simp [errW_none, errW_some] <;> rfl) | (simp [*, errW_none, errW_some] <;> rfl), by repeat (first | (with_reducible first | exact HB.out | apply bA | apply bD | apply b1) | exact HB.out)⟩
/-! ### table_sign: function 38 -/
def table_sign.f (a0 : Int) : Option (Bool) := if a0 ≥ (-1) then (some (decide (a0 ≤ 1))) else (some false)
set_option maxHeartbeats 8000000 in
set_option maxRecDepth 100000 in
theorem table_sign.calls (a0 : Int) (r : Bool) (w : World) (h : table_sign.f a0 = some r) :
    Calls Tryd.prog 43 #[.int .i64 a0] w fun e w' => e = .returned (.bool r) ∧ Drawn0 w w' := by
  have H : (if a0 ≥ (-1) then (some (decide (a0 ≤ 1))) else (some false)) = some r := h
  clear h
  by_cases c2 : a0 ≥ (-1)
  · rw [if_pos c2] at H
    have c2b0 := decide_eq_true c2
    clear c2
    obtain rfl := Option.some.inj H
    go_enter Tryd.func43, Tryd.ntmps43
    go_wp2
    go_ret
    exact ⟨by first | rfl | (simp; done) | (simp [*]; done), by repeat (first | exact Drawn0.refl _ | apply Drawn0.step)⟩
  rw [if_neg c2] at H
  have c2b0 := decide_eq_false c2
  clear c2
  obtain rfl := Option.some.inj H
  go_enter Tryd.func43, Tryd.ntmps43
  go_wp2
  go_ret
  exact ⟨by first | rfl | (simp; done) | (simp [*]; done), by repeat (first | exact Drawn0.refl _ | apply Drawn0.step)⟩

/-! ### table_kinds: function 25 -/
mutual
def table_kinds.j0 : Nat → Bool → List (List (S41)) → List (S43) → List (S58) → Int → Int → Option (Int)
  | 0, _, _, _, _, _, _ => none
  | k + 1, x14, x131000, x131001, x131002, x131003, x131004 => if x14 = true then (some 2) else (table_kinds.l0 k x131002 (x131002.length : Int) 0 x131000 x131001 x131002 x131003 x131004)
def table_kinds.l0 : Nat → List (S58) → Int → Int → List (List (S41)) → List (S43) → List (S58) → Int → Int → Option (Int)
  | 0, _, _, _, _, _, _, _, _ => none
  | k + 1, x16, x17, x18, x131000, x131001, x131002, x131003, x131004 => if x18 < x17 then (if 0 ≤ x18 then (if x18 < (x16.length : Int) then ((word_Name.f k ((rd_T58 x16 x18).f0)).bind fun t133 => (if t133 = true then (if x18 ≤ (x131002.length : Int) then ((api_Kind_36.f k (x131002.take (x18 : Int).toNat) ((rd_T58 x16 x18).f0)).bind fun t138 => (if t138 = true then (some 4) else ((table_sign.f ((rd_T58 x16 x18).f1)).bind fun t139 => (if t139 = true then ((table_sign.f ((rd_T58 x16 x18).f2)).bind fun t140 => (if t140 = true then ((table_sign.f ((rd_T58 x16 x18).f3)).bind fun t141 => (if t141 = true then (table_kinds.l0 k x16 x17 (wrap64 (x18 + 1)) x131000 x131001 x131002 x131003 x131004) else (some 1))) else (some 1))) else (some 1))))) else (none)) else (some 5))) else (none)) else (none)) else (some 0)
end
def table_kinds.f (k : Nat) (l0_0 : List (List (S41))) (l0_1 : List (S43)) (l0_2 : List (S58)) (a0_3 : Int) (a0_4 : Int) : Option (Int) := if (l0_2.length : Int) = 0 then (table_kinds.j0 k true l0_0 l0_1 l0_2 a0_3 a0_4) else (table_kinds.j0 k (decide ((l0_2.length : Int) > 12)) l0_0 l0_1 l0_2 a0_3 a0_4)
set_option maxHeartbeats 8000000 in
set_option maxRecDepth 100000 in
theorem table_kinds.calls (k : Nat) (A0_0 : Option Addr) (c0_0 : Nat) (l0_0 : List (List (S41))) (A0_1 : Option Addr) (c0_1 : Nat) (l0_1 : List (S43)) (A0_2 : Option Addr) (c0_2 : Nat) (l0_2 : List (S58)) (a0_3 : Int) (a0_4 : Int) (r : Int) (w : World) (hr0_0 : Kd.C (Kd.slice 52 k41) w A0_0 l0_0.length l0_0) (hc0_0 : l0_0.length ≤ c0_0) (hr0_1 : Kd.C k43 w A0_1 l0_1.length l0_1) (hc0_1 : l0_1.length ≤ c0_1) (hr0_2 : Kd.C k58 w A0_2 l0_2.length l0_2) (hc0_2 : l0_2.length ≤ c0_2) (h : table_kinds.f k l0_0 l0_1 l0_2 a0_3 a0_4 = some r) :
    Calls Tryd.prog 24 #[.agg #[.slice A0_0 l0_0.length c0_0, .slice A0_1 l0_1.length c0_1, .slice A0_2 l0_2.length c0_2, .int .i64 a0_3, .int .i64 a0_4]] w fun e w' => e = .returned (.int .i64 r) ∧ Below w.heap.size w w' := by
  have hu26 := Tryd.underlying26
  have hu58 := Tryd.underlying61
  have HR0_0 := AM hr0_0
  have HC0_0 := AM hc0_0
  clear hr0_0 hc0_0
  have HR0_1 := AM hr0_1
  have HC0_1 := AM hc0_1
  clear hr0_1 hc0_1
  have HR0_2 := AM hr0_2
  have HC0_2 := AM hc0_2
  clear hr0_2 hc0_2
  have HB := AM (Below.refl w.heap.size w)
  have H : (if (l0_2.length : Int) = 0 then (table_kinds.j0 k true l0_0 l0_1 l0_2 a0_3 a0_4) else (table_kinds.j0 k (decide ((l0_2.length : Int) > 12)) l0_0 l0_1 l0_2 a0_3 a0_4)) = some r := h
  clear h
  have HC2 := AM H
  clear H
  go_enter Tryd.func24, Tryd.ntmps24
  go_upto_region 1 with (first | ((with_reducible refine gD (N := 1) rfl ?_); (try (refine gG (by rfl) ?_; dsimp only)); refine bE ?hg (N := 1) ?hd (cs := #[.slice A0_0 l0_0.length c0_0, .slice A0_1 l0_1.length c0_1, .slice A0_2 l0_2.length c0_2, .int .i64 a0_3, .int .i64 a0_4]) (t := 26) ?hr ?_; (case hd => rfl); (case hg => rfl); (case hr => first | (go_simp; done) | (go_simp; rfl)); intro gb130 hg w3 hbox hb; have n0_ := AM (bT bQ hb); have n1_ := AM (hbox); have n2_ := AM ((by rw [hg]; exact (bZ bQ) : w.heap.size ≤ gb130)); have n3_ := AM ((by rw [hg]; exact (bZ bQ) : w.heap.size ≤ gb130)); clear HB; have HB := n0_; have BK130 := n1_; have GW130 := n2_; have GE130 := n3_; clear n0_ n1_ n2_ n3_; clear hb hbox hg))
  (try simp only [Act.put, List.setIfInBounds_toArray, List.set_cons_zero, List.set_cons_succ])
  go_cut [14] (fun v14 wc => ∃ (kq : Nat) (x14_1 : Bool), v14 = .bool x14_1 ∧ Aside0 (table_kinds.j0 kq x14_1 l0_0 l0_1 l0_2 a0_3 a0_4 = some r) ∧ Aside0 (kq ≤ k) ∧ Aside0 (wc.heap[gb130]? = some (.cells #[(.slice A0_0 l0_0.length c0_0), (.slice A0_1 l0_1.length c0_1), (.slice A0_2 l0_2.length c0_2), .int .i64 a0_3, .int .i64 a0_4] 26 (0, 0))) ∧ Aside0 (Below w.heap.size w wc))
  case first =>
    have H := HC2.out
    clear HC2
    by_cases c4 : (l0_2.length : Int) = 0
    · rw [if_pos c4] at H
      have c4b0 : ((l0_2.length : Int) == 0) = true := beq_iff_eq.mpr c4
      have c4b1 : ((l0_2.length : Int) != 0) = false := bne_eq_false_iff_eq.mpr c4
      clear c4
      (first | rw [c4b0] | (simp only [i64_w, i32_w]; rw [c4b0]) | skip)
      have H' := AM H
      clear H
      obtain ⟨_, _, _, _, _, _, _, _, _, _⟩ := bX5 BK130.out
      go_wp2
      go_meet
      case rel => exact ⟨_, (true), (by first | rfl | (simp; done) | (simp [*]; done)), H', ⟨by first | omega | exact Nat.le_refl _⟩, ⟨by (with_reducible repeat (first | refine kD ?_ _ | refine k1_ ?_ | refine kA ?_ _)); exact BK130.out⟩, ⟨by repeat (first | (with_reducible first | exact HB.out | apply bA | apply bD | apply b1 | refine bS ?_ GE130.out) | exact HB.out)⟩⟩
    rw [if_neg c4] at H
    have c4b0 : ((l0_2.length : Int) == 0) = false := beq_eq_false_iff_ne.mpr c4
    have c4b1 : ((l0_2.length : Int) != 0) = true := bne_iff_ne.mpr c4
    have c4b2 : ¬ (l0_2 = []) := fun h_ => c4 (by rw [h_]; rfl)
    (first | rw [c4b0] | (simp only [i64_w, i32_w]; rw [c4b0]) | skip)
    have H' := AM H
    clear H
    obtain ⟨_, _, _, _, _, _, _, _, _, _⟩ := bX5 BK130.out
    go_wp2
    go_meet
    case rel => exact ⟨_, (decide ((l0_2.length : Int) > 12)), (by first | rfl | (simp; done) | (simp [*]; done)), H', ⟨by first | omega | exact Nat.le_refl _⟩, ⟨by (with_reducible repeat (first | refine kD ?_ _ | refine k1_ ?_ | refine kA ?_ _)); exact BK130.out⟩, ⟨by repeat (first | (with_reducible first | exact HB.out | apply bA | apply bD | apply b1 | refine bS ?_ GE130.out) | exact HB.out)⟩⟩
  case rest =>
    clear HC2
    obtain ⟨kq, x14_1, rfl, HA, HJ1, BK130, HB⟩ := hcut
    cases kq with
    | zero => exact absurd HA.out (by simp [table_kinds.j0])
    | succ kj1 =>
      have H := HA.out
      clear HA
      simp only [table_kinds.j0] at H
      by_cases c7 : x14_1 = true
      · subst c7
        have H1 : (some 2) = some r := by rw [if_pos rfl] at H; exact H
        clear H
        have H := H1
        clear H1
        obtain rfl := Option.some.inj H
        go_wp2
        go_ret
        exact ⟨by first | rfl | (simp [errW_none, errW_some] <;> rfl) | (simp [*, errW_none, errW_some] <;> rfl), by repeat (first | (with_reducible first | exact HB.out | apply bA | apply bD | apply b1 | refine bS ?_ GE130.out) | exact HB.out)⟩
      replace c7 := Bool.eq_false_iff.mpr c7
      subst c7
      have H1 : (table_kinds.l0 kj1 l0_2 (l0_2.length : Int) 0 l0_0 l0_1 l0_2 a0_3 a0_4) = some r := by rw [if_neg (show ¬ (false = true) by decide)] at H; exact H
      clear H
      have H := H1
      clear H1
      have H' := AM H
      clear H
      obtain ⟨_, _, _, _, _, _, _, _, _, _⟩ := bX5 BK130.out
      go_wp2
      go_loopg [18] kj1 (fun kq v18 w' => ∃ (x18_2 : Int), v18 = .int .i64 x18_2 ∧ Aside0 (table_kinds.l0 kq l0_2 (l0_2.length : Int) x18_2 l0_0 l0_1 l0_2 a0_3 a0_4 = some r) ∧ Aside0 (kq ≤ kj1) ∧ Aside0 (w'.heap[gb130]? = some (.cells #[(.slice A0_0 l0_0.length c0_0), (.slice A0_1 l0_1.length c0_1), (.slice A0_2 l0_2.length c0_2), .int .i64 a0_3, .int .i64 a0_4] 26 (0, 0))) ∧ Aside0 (Below w.heap.size w w'))
      case atStart => exact ⟨(0), (by first | rfl | (simp; done) | (simp [*]; done)), H', ⟨Nat.le_refl _⟩, ⟨by (with_reducible repeat (first | refine kD ?_ _ | refine k1_ ?_ | refine kA ?_ _)); exact BK130.out⟩, ⟨by repeat (first | (with_reducible first | exact HB.out | apply bA | apply bD | apply b1 | refine bS ?_ GE130.out) | exact HB.out)⟩⟩
      case round =>
        clear H'
        obtain ⟨x18_2, rfl, HA, HK2, BK130, HB⟩ := hrel
        cases gk with
        | zero => exact absurd HA.out (by simp [table_kinds.l0])
        | succ k2 =>
          have H := HA.out
          clear HA
          simp only [table_kinds.l0] at H
          by_cases c9 : x18_2 < (l0_2.length : Int)
          rotate_left
          · rw [if_neg c9] at H
            have c9b0 := decide_eq_false c9
            clear c9
            obtain rfl := Option.some.inj H
            go_wp2
            go_ret
            exact ⟨by first | rfl | (simp [errW_none, errW_some] <;> rfl) | (simp [*, errW_none, errW_some] <;> rfl), by repeat (first | (with_reducible first | exact HB.out | apply bA | apply bD | apply b1 | refine bS ?_ GE130.out) | exact HB.out)⟩

          rw [if_pos c9] at H
          have c9b0 := decide_eq_true c9
          clear c9
          by_cases c10 : 0 ≤ x18_2
          rotate_left
          · rw [if_neg c10] at H
            exact absurd H (by simp)
          rw [if_pos c10] at H
          have c10b0 := decide_eq_true c10
          clear c10
          by_cases c11 : x18_2 < (l0_2.length : Int)
          rotate_left
          · rw [if_neg c11] at H
            exact absurd H (by simp)
          rw [if_pos c11] at H
          have c11b0 := decide_eq_true c11
          clear c11
          replace H := Option.bind_eq_some_iff.mp H
          obtain ⟨t133, A120, H⟩ := H
          replace H : (if t133 = true then (if x18_2 ≤ (l0_2.length : Int) then ((api_Kind_36.f k2 (l0_2.take (x18_2 : Int).toNat) ((rd_T58 l0_2 x18_2).f0)).bind fun t138 => (if t138 = true then (some 4) else ((table_sign.f ((rd_T58 l0_2 x18_2).f1)).bind fun t139 => (if t139 = true then ((table_sign.f ((rd_T58 l0_2 x18_2).f2)).bind fun t140 => (if t140 = true then ((table_sign.f ((rd_T58 l0_2 x18_2).f3)).bind fun t141 => (if t141 = true then (table_kinds.l0 k2 l0_2 (l0_2.length : Int) (wrap64 (x18_2 + 1)) l0_0 l0_1 l0_2 a0_3 a0_4) else (some 1))) else (some 1))) else (some 1))))) else (none)) else (some 5)) = some r := H
          have A12 := AM A120
          clear A120
          by_cases c13 : t133 = true
          rotate_left
          · replace c13 := Bool.eq_false_iff.mpr c13
            subst c13
            have H1 : (some 5) = some r := by rw [if_neg (show ¬ (false = true) by decide)] at H; exact H
            clear H
            have H := H1
            clear H1
            obtain rfl := Option.some.inj H
            have p131 : 0 ≤ (x18_2 : Int) := of_decide_eq_true (by first | (with_reducible assumption) | assumption)
            have q131 : x18_2 < (l0_2.length : Int) := of_decide_eq_true (by first | (with_reducible assumption) | assumption)
            obtain ⟨ad131, e131, hx131_0, hx131_1, hx131_2, hx131_3⟩ := at_T58 HR0_2.out x18_2 p131 q131
            cases e131
            replace hx131_0 := (HB.out.cell (bL w _ hx131_0)).trans hx131_0
            replace hx131_1 := (HB.out.cell (bL w _ hx131_1)).trans hx131_1
            replace hx131_2 := (HB.out.cell (bL w _ hx131_2)).trans hx131_2
            replace hx131_3 := (HB.out.cell (bL w _ hx131_3)).trans hx131_3
            replace p131 := eq_true p131
            replace q131 := eq_true q131
            go_wp2_with (first | ((with_reducible refine gD (N := 4) rfl ?_); (try (refine gG (by rfl) ?_; dsimp only)); refine bE ?hg (N := 4) ?hd (cs := #[.string (⟨#[]⟩ : ByteArray), .int .i64 0, .int .i64 0, .int .i64 0]) (t := 61) ?hr ?_; (case hd => rfl); (case hg => rfl); (case hr => first | (go_simp; done) | (go_simp; rfl)); intro gb132 hg w68 hbox hb; have n0_ := AM (kB (g := gb130) (o := .cells #[.slice A0_0 l0_0.length c0_0, .slice A0_1 l0_1.length c0_1, .slice (some ad131) l0_2.length c0_2, .int .i64 a0_3, .int .i64 a0_4] 26 (0, 0)) (kW BK130) hb); have n1_ := AM (bT bQ hb); have n2_ := AM (hbox); have n3_ := AM ((by rw [hg]; exact (bZ bQ) : w.heap.size ≤ gb132)); have n4_ := AM ((by rw [hg]; exact (bZ bQ) : w.heap.size ≤ gb132)); have n5_ := AM ((by rw [hg]; exact Nat.ne_of_lt (blk_lt (g := gb130) (o := .cells #[.slice A0_0 l0_0.length c0_0, .slice A0_1 l0_1.length c0_1, .slice (some ad131) l0_2.length c0_2, .int .i64 a0_3, .int .i64 a0_4] 26 (0, 0)) (kW BK130)) : gb130 ≠ gb132)); have n6_ := AM ((by rw [hg]; exact Nat.ne_of_gt (blk_lt (g := gb130) (o := .cells #[.slice A0_0 l0_0.length c0_0, .slice A0_1 l0_1.length c0_1, .slice (some ad131) l0_2.length c0_2, .int .i64 a0_3, .int .i64 a0_4] 26 (0, 0)) (kW BK130)) : gb132 ≠ gb130)); clear BK130; clear HB; have BK130 := n0_; have HB := n1_; have BK132 := n2_; have GW132 := n3_; have GE132 := n4_; have NB130_132 := n5_; have NB132_130 := n6_; clear n0_ n1_ n2_ n3_ n4_ n5_ n6_; clear hb hbox hg; have hnb69 := NB132_130.out; have hnc69 := NB130_132.out; obtain ⟨_, _, _, _, _, _, _, _⟩ := bX4 BK132.out) | ((with_reducible refine gC (f := 38) rfl ?_); refine gL (some 26) rfl rfl Tryd.func38 (by kernel_rfl) rfl #[.string ((rd_T58 l0_2 x18_2).f0)] rfl (by (try simp only [List.map_toArray, List.map_cons, List.map_nil]); first | done | rfl | (simp only [List.length_drop, List.length_take]; rfl)) ?_; (with_reducible refine (word_Name.calls k2 ((rd_T58 l0_2 x18_2).f0) false _ A12.out).mono ?_); rintro e w' ⟨rfl, ⟨nd, rfl⟩⟩; refine ⟨_, rfl, ?_⟩))
            go_ret
            exact ⟨by first | rfl | (simp [errW_none, errW_some] <;> rfl) | (simp [*, errW_none, errW_some] <;> rfl), by repeat (first | (with_reducible first | exact HB.out | apply bA | apply bD | apply b1 | refine bS ?_ GE130.out | refine bS ?_ GE132.out) | exact HB.out)⟩
          subst c13
          have H1 : (if x18_2 ≤ (l0_2.length : Int) then ((api_Kind_36.f k2 (l0_2.take (x18_2 : Int).toNat) ((rd_T58 l0_2 x18_2).f0)).bind fun t138 => (if t138 = true then (some 4) else ((table_sign.f ((rd_T58 l0_2 x18_2).f1)).bind fun t139 => (if t139 = true then ((table_sign.f ((rd_T58 l0_2 x18_2).f2)).bind fun t140 => (if t140 = true then ((table_sign.f ((rd_T58 l0_2 x18_2).f3)).bind fun t141 => (if t141 = true then (table_kinds.l0 k2 l0_2 (l0_2.length : Int) (wrap64 (x18_2 + 1)) l0_0 l0_1 l0_2 a0_3 a0_4) else (some 1))) else (some 1))) else (some 1))))) else (none)) = some r := by rw [if_pos rfl] at H; exact H
          clear H
          have H := H1
          clear H1
          have c14b0 := eq_true (of_decide_eq_true (by first | (with_reducible assumption) | assumption) : 0 ≤ x18_2)
          by_cases c15 : x18_2 ≤ (l0_2.length : Int)
          rotate_left
          · rw [if_neg c15] at H
            exact absurd H (by simp)
          rw [if_pos c15] at H
          have c15b0 := eq_true c15
          have c15b1 : decide (x18_2 ≤ (l0_2.length : Int)) = true := decide_eq_true c15
          clear c15
          obtain ⟨y134, hy134⟩ : ∃ y_ : List (S58), y_ = (l0_2.take (x18_2 : Int).toNat) := ⟨_, rfl⟩
          replace H : ((api_Kind_36.f k2 y134 ((rd_T58 l0_2 x18_2).f0)).bind fun t138 => (if t138 = true then (some 4) else ((table_sign.f ((rd_T58 l0_2 x18_2).f1)).bind fun t139 => (if t139 = true then ((table_sign.f ((rd_T58 l0_2 x18_2).f2)).bind fun t140 => (if t140 = true then ((table_sign.f ((rd_T58 l0_2 x18_2).f3)).bind fun t141 => (if t141 = true then (table_kinds.l0 k2 l0_2 (l0_2.length : Int) (wrap64 (x18_2 + 1)) l0_0 l0_1 l0_2 a0_3 a0_4) else (some 1))) else (some 1))) else (some 1))))) = some r := by first | (rw [hy134]; with_reducible exact H) | (have H2_ := (Option.bind_some _ _).symm.trans H; rw [hy134]; with_reducible exact H2_) | (have H2_ := (Option.bind_some _ _).symm.trans H; with_reducible exact H2_) | with_reducible exact H | (rw [hy134]; exact H) | exact H
          have Ny134 := AM hy134
          clear hy134
          replace H := Option.bind_eq_some_iff.mp H
          obtain ⟨t138, A160, H⟩ := H
          replace H : (if t138 = true then (some 4) else ((table_sign.f ((rd_T58 l0_2 x18_2).f1)).bind fun t139 => (if t139 = true then ((table_sign.f ((rd_T58 l0_2 x18_2).f2)).bind fun t140 => (if t140 = true then ((table_sign.f ((rd_T58 l0_2 x18_2).f3)).bind fun t141 => (if t141 = true then (table_kinds.l0 k2 l0_2 (l0_2.length : Int) (wrap64 (x18_2 + 1)) l0_0 l0_1 l0_2 a0_3 a0_4) else (some 1))) else (some 1))) else (some 1)))) = some r := H
          have A16 := AM A160
          clear A160
          by_cases c17 : t138 = true
          · subst c17
            have H1 : (some 4) = some r := by rw [if_pos rfl] at H; exact H
            clear H
            have H := H1
            clear H1
            obtain rfl := Option.some.inj H
            have p131 : 0 ≤ (x18_2 : Int) := of_decide_eq_true (by first | (with_reducible assumption) | assumption)
            have q131 : x18_2 < (l0_2.length : Int) := of_decide_eq_true (by first | (with_reducible assumption) | assumption)
            obtain ⟨ad131, e131, hx131_0, hx131_1, hx131_2, hx131_3⟩ := at_T58 HR0_2.out x18_2 p131 q131
            cases e131
            replace hx131_0 := (HB.out.cell (bL w _ hx131_0)).trans hx131_0
            replace hx131_1 := (HB.out.cell (bL w _ hx131_1)).trans hx131_1
            replace hx131_2 := (HB.out.cell (bL w _ hx131_2)).trans hx131_2
            replace hx131_3 := (HB.out.cell (bL w _ hx131_3)).trans hx131_3
            replace p131 := eq_true p131
            replace q131 := eq_true q131
            go_wp2_with (first | ((with_reducible refine gD (N := 4) rfl ?_); (try (refine gG (by rfl) ?_; dsimp only)); refine bE ?hg (N := 4) ?hd (cs := #[.string (⟨#[]⟩ : ByteArray), .int .i64 0, .int .i64 0, .int .i64 0]) (t := 61) ?hr ?_; (case hd => rfl); (case hg => rfl); (case hr => first | (go_simp; done) | (go_simp; rfl)); intro gb132 hg w18 hbox hb; have n0_ := AM (kB (g := gb130) (o := .cells #[.slice A0_0 l0_0.length c0_0, .slice A0_1 l0_1.length c0_1, .slice (some ad131) l0_2.length c0_2, .int .i64 a0_3, .int .i64 a0_4] 26 (0, 0)) (kW BK130) hb); have n1_ := AM (bT bQ hb); have n2_ := AM (hbox); have n3_ := AM ((by rw [hg]; exact (bZ bQ) : w.heap.size ≤ gb132)); have n4_ := AM ((by rw [hg]; exact (bZ bQ) : w.heap.size ≤ gb132)); have n5_ := AM ((by rw [hg]; exact Nat.ne_of_lt (blk_lt (g := gb130) (o := .cells #[.slice A0_0 l0_0.length c0_0, .slice A0_1 l0_1.length c0_1, .slice (some ad131) l0_2.length c0_2, .int .i64 a0_3, .int .i64 a0_4] 26 (0, 0)) (kW BK130)) : gb130 ≠ gb132)); have n6_ := AM ((by rw [hg]; exact Nat.ne_of_gt (blk_lt (g := gb130) (o := .cells #[.slice A0_0 l0_0.length c0_0, .slice A0_1 l0_1.length c0_1, .slice (some ad131) l0_2.length c0_2, .int .i64 a0_3, .int .i64 a0_4] 26 (0, 0)) (kW BK130)) : gb132 ≠ gb130)); clear BK130; clear HB; have BK130 := n0_; have HB := n1_; have BK132 := n2_; have GW132 := n3_; have GE132 := n4_; have NB130_132 := n5_; have NB132_130 := n6_; clear n0_ n1_ n2_ n3_ n4_ n5_ n6_; clear hb hbox hg; have hnb19 := NB132_130.out; have hnc19 := NB130_132.out; obtain ⟨_, _, _, _, _, _, _, _⟩ := bX4 BK132.out) | ((with_reducible refine gS (t := 61) (p := 4) rfl ?_); refine sE (t := 61) (p := 4) (v := ?vo_w21) (w1 := ((((w18.setCell ⟨gb132, 0, none⟩ (.string ((rd_T58 l0_2 x18_2).f0))).setCell ⟨gb132, 1, none⟩ (.int .i64 ((rd_T58 l0_2 x18_2).f1))).setCell ⟨gb132, 2, none⟩ (.int .i64 ((rd_T58 l0_2 x18_2).f2))).setCell ⟨gb132, 3, none⟩ (.int .i64 ((rd_T58 l0_2 x18_2).f3)))) ?hg ?ho ?hn ?hr ?_; (case ho => rfl); (case hg => rfl); (case hn => rfl); (case hr => first | (go_simp; done) | (go_simp; rfl)); intro w21 hw; have n0_ : Aside0 (w21.heap[gb130]? = some (.cells #[.slice A0_0 l0_0.length c0_0, .slice A0_1 l0_1.length c0_1, .slice (some ad131) l0_2.length c0_2, .int .i64 a0_3, .int .i64 a0_4] 26 (0, 0))) := ⟨(by rw [hw]; exact (by (with_reducible repeat (first | refine kD ?_ _ | refine k1_ ?_ | refine kA ?_ _)); refine kF ?_ NB130_132.out _; (with_reducible repeat (first | refine kD ?_ _ | refine k1_ ?_ | refine kA ?_ _)); refine kF ?_ NB130_132.out _; (with_reducible repeat (first | refine kD ?_ _ | refine k1_ ?_ | refine kA ?_ _)); refine kF ?_ NB130_132.out _; (with_reducible repeat (first | refine kD ?_ _ | refine k1_ ?_ | refine kA ?_ _)); refine kF ?_ NB130_132.out _; (with_reducible repeat (first | refine kD ?_ _ | refine k1_ ?_ | refine kA ?_ _)); exact BK130.out))⟩; have n1_ : Aside0 (w21.heap[gb132]? = some (.cells #[.string ((rd_T58 l0_2 x18_2).f0), .int .i64 ((rd_T58 l0_2 x18_2).f1), .int .i64 ((rd_T58 l0_2 x18_2).f2), .int .i64 ((rd_T58 l0_2 x18_2).f3)] 61 (0, 0))) := ⟨(by rw [hw]; exact (by (with_reducible repeat (first | refine kD ?_ _ | refine k1_ ?_ | refine kA ?_ _)); refine kP (cs := #[.string ((rd_T58 l0_2 x18_2).f0), .int .i64 ((rd_T58 l0_2 x18_2).f1), .int .i64 ((rd_T58 l0_2 x18_2).f2), .int .i64 0]) ?_ 3 _ rfl; (with_reducible repeat (first | refine kD ?_ _ | refine k1_ ?_ | refine kA ?_ _)); refine kP (cs := #[.string ((rd_T58 l0_2 x18_2).f0), .int .i64 ((rd_T58 l0_2 x18_2).f1), .int .i64 0, .int .i64 0]) ?_ 2 _ rfl; (with_reducible repeat (first | refine kD ?_ _ | refine k1_ ?_ | refine kA ?_ _)); refine kP (cs := #[.string ((rd_T58 l0_2 x18_2).f0), .int .i64 0, .int .i64 0, .int .i64 0]) ?_ 1 _ rfl; (with_reducible repeat (first | refine kD ?_ _ | refine k1_ ?_ | refine kA ?_ _)); refine kP (cs := #[.string (⟨#[]⟩ : ByteArray), .int .i64 0, .int .i64 0, .int .i64 0]) ?_ 0 _ rfl; (with_reducible repeat (first | refine kD ?_ _ | refine k1_ ?_ | refine kA ?_ _)); exact BK132.out))⟩; have n2_ : Aside0 (Below w.heap.size w w21) := ⟨(by rw [hw]; exact bQ)⟩; clear hw; clear BK130; clear BK132; clear HB; have BK130 := n0_; have BK132 := n1_; have HB := n2_; clear n0_ n1_ n2_; obtain ⟨_, _, _, _, _, _, _, _⟩ := bX4 BK132.out) | ((with_reducible refine gC (f := 38) rfl ?_); refine gL (some 26) rfl rfl Tryd.func38 (by kernel_rfl) rfl #[.string ((rd_T58 l0_2 x18_2).f0)] rfl (by (try simp only [List.map_toArray, List.map_cons, List.map_nil]); first | done | rfl | (simp only [List.length_drop, List.length_take]; rfl)) ?_; (with_reducible refine (word_Name.calls k2 ((rd_T58 l0_2 x18_2).f0) true _ A12.out).mono ?_); rintro e w' ⟨rfl, ⟨nd, rfl⟩⟩; refine ⟨_, rfl, ?_⟩; obtain ⟨_, _, _, _, _, _, _, _, _, _⟩ := bX5 BK130.out; have q24 : (x18_2 : Int) ≤ ((l0_2.length : Int) : Int) := of_decide_eq_true (by first | (with_reducible assumption) | assumption); obtain ⟨i024, hi024, _, hsz24, _⟩ := info_parts info58; have hroom24 : l0_2.length ≤ c0_2 := HC0_2.out; have hC24 : Kd.C k58 _ (some ad131) l0_2.length l0_2 := HR0_2.out; have hcut24 := cut_to (P := Tryd.prog) 24 61 .i64 Tryd.underlying24 hi024 (some ad131) l0_2.length c0_2 x18_2 (of_decide_eq_true (by first | (with_reducible assumption) | assumption)) q24 hroom24; have hr24 := Kd.C_take (m := (x18_2 : Int).toNat) hC24 (by omega); have hy24 : y134.length = (x18_2 : Int).toNat := (by rw [Ny134.out, List.length_take]; omega); rw [← Ny134.out] at hr24; rw [← hy24] at hcut24; have HR137 := AM hr24; have HC137 := AM (show y134.length ≤ c0_2 from by omega); clear hr24 hC24 hroom24 hi024 hsz24; have KY24 := AM hy24; clear hy24; replace q24 := eq_true q24) | ((with_reducible refine gC (f := 41) rfl ?_); refine gL (some 34) rfl rfl Tryd.func41 (by kernel_rfl) rfl #[.slice (some ad131) y134.length c0_2, .func (.func 42) #[] #[.pointer (some ⟨gb132, 0, none⟩)]] rfl (by (try simp only [List.map_toArray, List.map_cons, List.map_nil]); first | done | rfl | (simp only [List.length_drop, List.length_take]; rfl)) ?_; (with_reducible refine (api_Kind_36.calls k2 _ _ y134 ((rd_T58 l0_2 x18_2).f0) true _ ?side1 ?side2 gb132 ?sideg A16.out).mono ?_); (case side1 => repeat (first | exact (cB HR137.out bQ) | (with_reducible refine cA ?_ _) | (with_reducible refine cD ?_ _) | (with_reducible refine c1_ ?_))); (case side2 => exact HC137.out); (case sideg => exact (bC BK132.out 0).trans rfl); rintro e w25 ⟨rfl, hb⟩; refine ⟨_, rfl, ?_⟩; have n0_ := AM (kB (g := gb130) (o := .cells #[.slice A0_0 l0_0.length c0_0, .slice A0_1 l0_1.length c0_1, .slice (some ad131) l0_2.length c0_2, .int .i64 a0_3, .int .i64 a0_4] 26 (0, 0)) (kW BK130) hb); have n1_ := AM (kB (g := gb132) (o := .cells #[.string ((rd_T58 l0_2 x18_2).f0), .int .i64 ((rd_T58 l0_2 x18_2).f1), .int .i64 ((rd_T58 l0_2 x18_2).f2), .int .i64 ((rd_T58 l0_2 x18_2).f3)] 61 (0, 0)) (kW BK132) hb); have n2_ := AM (bT bQ hb); clear BK130; clear BK132; clear HB; have BK130 := n0_; have BK132 := n1_; have HB := n2_; clear n0_ n1_ n2_; (try clear hb); (try clear hb2); (try clear hk); (try clear hi)))
            go_ret
            exact ⟨by first | rfl | (simp [errW_none, errW_some] <;> rfl) | (simp [*, errW_none, errW_some] <;> rfl), by repeat (first | (with_reducible first | exact HB.out | apply bA | apply bD | apply b1 | refine bS ?_ GE130.out | refine bS ?_ GE132.out) | exact HB.out)⟩
          replace c17 := Bool.eq_false_iff.mpr c17
          subst c17
          have H1 : ((table_sign.f ((rd_T58 l0_2 x18_2).f1)).bind fun t139 => (if t139 = true then ((table_sign.f ((rd_T58 l0_2 x18_2).f2)).bind fun t140 => (if t140 = true then ((table_sign.f ((rd_T58 l0_2 x18_2).f3)).bind fun t141 => (if t141 = true then (table_kinds.l0 k2 l0_2 (l0_2.length : Int) (wrap64 (x18_2 + 1)) l0_0 l0_1 l0_2 a0_3 a0_4) else (some 1))) else (some 1))) else (some 1))) = some r := by rw [if_neg (show ¬ (false = true) by decide)] at H; exact H
          clear H
          have H := H1
          clear H1
          replace H := Option.bind_eq_some_iff.mp H
          obtain ⟨t139, A260, H⟩ := H
          replace H : (if t139 = true then ((table_sign.f ((rd_T58 l0_2 x18_2).f2)).bind fun t140 => (if t140 = true then ((table_sign.f ((rd_T58 l0_2 x18_2).f3)).bind fun t141 => (if t141 = true then (table_kinds.l0 k2 l0_2 (l0_2.length : Int) (wrap64 (x18_2 + 1)) l0_0 l0_1 l0_2 a0_3 a0_4) else (some 1))) else (some 1))) else (some 1)) = some r := H
          have A26 := AM A260
          clear A260
          by_cases c27 : t139 = true
          rotate_left
          · replace c27 := Bool.eq_false_iff.mpr c27
            subst c27
            have H1 : (some 1) = some r := by rw [if_neg (show ¬ (false = true) by decide)] at H; exact H
            clear H
            have H := H1
            clear H1
            obtain rfl := Option.some.inj H
            have p131 : 0 ≤ (x18_2 : Int) := of_decide_eq_true (by first | (with_reducible assumption) | assumption)
            have q131 : x18_2 < (l0_2.length : Int) := of_decide_eq_true (by first | (with_reducible assumption) | assumption)
            obtain ⟨ad131, e131, hx131_0, hx131_1, hx131_2, hx131_3⟩ := at_T58 HR0_2.out x18_2 p131 q131
            cases e131
            replace hx131_0 := (HB.out.cell (bL w _ hx131_0)).trans hx131_0
            replace hx131_1 := (HB.out.cell (bL w _ hx131_1)).trans hx131_1
            replace hx131_2 := (HB.out.cell (bL w _ hx131_2)).trans hx131_2
            replace hx131_3 := (HB.out.cell (bL w _ hx131_3)).trans hx131_3
            replace p131 := eq_true p131
            replace q131 := eq_true q131
            go_wp2_with (first | ((with_reducible refine gD (N := 4) rfl ?_); (try (refine gG (by rfl) ?_; dsimp only)); refine bE ?hg (N := 4) ?hd (cs := #[.string (⟨#[]⟩ : ByteArray), .int .i64 0, .int .i64 0, .int .i64 0]) (t := 61) ?hr ?_; (case hd => rfl); (case hg => rfl); (case hr => first | (go_simp; done) | (go_simp; rfl)); intro gb132 hg w59 hbox hb; have n0_ := AM (kB (g := gb130) (o := .cells #[.slice A0_0 l0_0.length c0_0, .slice A0_1 l0_1.length c0_1, .slice (some ad131) l0_2.length c0_2, .int .i64 a0_3, .int .i64 a0_4] 26 (0, 0)) (kW BK130) hb); have n1_ := AM (bT bQ hb); have n2_ := AM (hbox); have n3_ := AM ((by rw [hg]; exact (bZ bQ) : w.heap.size ≤ gb132)); have n4_ := AM ((by rw [hg]; exact (bZ bQ) : w.heap.size ≤ gb132)); have n5_ := AM ((by rw [hg]; exact Nat.ne_of_lt (blk_lt (g := gb130) (o := .cells #[.slice A0_0 l0_0.length c0_0, .slice A0_1 l0_1.length c0_1, .slice (some ad131) l0_2.length c0_2, .int .i64 a0_3, .int .i64 a0_4] 26 (0, 0)) (kW BK130)) : gb130 ≠ gb132)); have n6_ := AM ((by rw [hg]; exact Nat.ne_of_gt (blk_lt (g := gb130) (o := .cells #[.slice A0_0 l0_0.length c0_0, .slice A0_1 l0_1.length c0_1, .slice (some ad131) l0_2.length c0_2, .int .i64 a0_3, .int .i64 a0_4] 26 (0, 0)) (kW BK130)) : gb132 ≠ gb130)); clear BK130; clear HB; have BK130 := n0_; have HB := n1_; have BK132 := n2_; have GW132 := n3_; have GE132 := n4_; have NB130_132 := n5_; have NB132_130 := n6_; clear n0_ n1_ n2_ n3_ n4_ n5_ n6_; clear hb hbox hg; have hnb60 := NB132_130.out; have hnc60 := NB130_132.out; obtain ⟨_, _, _, _, _, _, _, _⟩ := bX4 BK132.out) | ((with_reducible refine gS (t := 61) (p := 4) rfl ?_); refine sE (t := 61) (p := 4) (v := ?vo_w62) (w1 := ((((w59.setCell ⟨gb132, 0, none⟩ (.string ((rd_T58 l0_2 x18_2).f0))).setCell ⟨gb132, 1, none⟩ (.int .i64 ((rd_T58 l0_2 x18_2).f1))).setCell ⟨gb132, 2, none⟩ (.int .i64 ((rd_T58 l0_2 x18_2).f2))).setCell ⟨gb132, 3, none⟩ (.int .i64 ((rd_T58 l0_2 x18_2).f3)))) ?hg ?ho ?hn ?hr ?_; (case ho => rfl); (case hg => rfl); (case hn => rfl); (case hr => first | (go_simp; done) | (go_simp; rfl)); intro w62 hw; have n0_ : Aside0 (w62.heap[gb130]? = some (.cells #[.slice A0_0 l0_0.length c0_0, .slice A0_1 l0_1.length c0_1, .slice (some ad131) l0_2.length c0_2, .int .i64 a0_3, .int .i64 a0_4] 26 (0, 0))) := ⟨(by rw [hw]; exact (by (with_reducible repeat (first | refine kD ?_ _ | refine k1_ ?_ | refine kA ?_ _)); refine kF ?_ NB130_132.out _; (with_reducible repeat (first | refine kD ?_ _ | refine k1_ ?_ | refine kA ?_ _)); refine kF ?_ NB130_132.out _; (with_reducible repeat (first | refine kD ?_ _ | refine k1_ ?_ | refine kA ?_ _)); refine kF ?_ NB130_132.out _; (with_reducible repeat (first | refine kD ?_ _ | refine k1_ ?_ | refine kA ?_ _)); refine kF ?_ NB130_132.out _; (with_reducible repeat (first | refine kD ?_ _ | refine k1_ ?_ | refine kA ?_ _)); exact BK130.out))⟩; have n1_ : Aside0 (w62.heap[gb132]? = some (.cells #[.string ((rd_T58 l0_2 x18_2).f0), .int .i64 ((rd_T58 l0_2 x18_2).f1), .int .i64 ((rd_T58 l0_2 x18_2).f2), .int .i64 ((rd_T58 l0_2 x18_2).f3)] 61 (0, 0))) := ⟨(by rw [hw]; exact (by (with_reducible repeat (first | refine kD ?_ _ | refine k1_ ?_ | refine kA ?_ _)); refine kP (cs := #[.string ((rd_T58 l0_2 x18_2).f0), .int .i64 ((rd_T58 l0_2 x18_2).f1), .int .i64 ((rd_T58 l0_2 x18_2).f2), .int .i64 0]) ?_ 3 _ rfl; (with_reducible repeat (first | refine kD ?_ _ | refine k1_ ?_ | refine kA ?_ _)); refine kP (cs := #[.string ((rd_T58 l0_2 x18_2).f0), .int .i64 ((rd_T58 l0_2 x18_2).f1), .int .i64 0, .int .i64 0]) ?_ 2 _ rfl; (with_reducible repeat (first | refine kD ?_ _ | refine k1_ ?_ | refine kA ?_ _)); refine kP (cs := #[.string ((rd_T58 l0_2 x18_2).f0), .int .i64 0, .int .i64 0, .int .i64 0]) ?_ 1 _ rfl; (with_reducible repeat (first | refine kD ?_ _ | refine k1_ ?_ | refine kA ?_ _)); refine kP (cs := #[.string (⟨#[]⟩ : ByteArray), .int .i64 0, .int .i64 0, .int .i64 0]) ?_ 0 _ rfl; (with_reducible repeat (first | refine kD ?_ _ | refine k1_ ?_ | refine kA ?_ _)); exact BK132.out))⟩; have n2_ : Aside0 (Below w.heap.size w w62) := ⟨(by rw [hw]; exact bQ)⟩; clear hw; clear BK130; clear BK132; clear HB; have BK130 := n0_; have BK132 := n1_; have HB := n2_; clear n0_ n1_ n2_; obtain ⟨_, _, _, _, _, _, _, _⟩ := bX4 BK132.out) | ((with_reducible refine gC (f := 38) rfl ?_); refine gL (some 26) rfl rfl Tryd.func38 (by kernel_rfl) rfl #[.string ((rd_T58 l0_2 x18_2).f0)] rfl (by (try simp only [List.map_toArray, List.map_cons, List.map_nil]); first | done | rfl | (simp only [List.length_drop, List.length_take]; rfl)) ?_; (with_reducible refine (word_Name.calls k2 ((rd_T58 l0_2 x18_2).f0) true _ A12.out).mono ?_); rintro e w' ⟨rfl, ⟨nd, rfl⟩⟩; refine ⟨_, rfl, ?_⟩; obtain ⟨_, _, _, _, _, _, _, _, _, _⟩ := bX5 BK130.out; have q65 : (x18_2 : Int) ≤ ((l0_2.length : Int) : Int) := of_decide_eq_true (by first | (with_reducible assumption) | assumption); obtain ⟨i065, hi065, _, hsz65, _⟩ := info_parts info58; have hroom65 : l0_2.length ≤ c0_2 := HC0_2.out; have hC65 : Kd.C k58 _ (some ad131) l0_2.length l0_2 := HR0_2.out; have hcut65 := cut_to (P := Tryd.prog) 24 61 .i64 Tryd.underlying24 hi065 (some ad131) l0_2.length c0_2 x18_2 (of_decide_eq_true (by first | (with_reducible assumption) | assumption)) q65 hroom65; have hr65 := Kd.C_take (m := (x18_2 : Int).toNat) hC65 (by omega); have hy65 : y134.length = (x18_2 : Int).toNat := (by rw [Ny134.out, List.length_take]; omega); rw [← Ny134.out] at hr65; rw [← hy65] at hcut65; have HR137 := AM hr65; have HC137 := AM (show y134.length ≤ c0_2 from by omega); clear hr65 hC65 hroom65 hi065 hsz65; have KY65 := AM hy65; clear hy65; replace q65 := eq_true q65) | ((with_reducible refine gC (f := 41) rfl ?_); refine gL (some 34) rfl rfl Tryd.func41 (by kernel_rfl) rfl #[.slice (some ad131) y134.length c0_2, .func (.func 42) #[] #[.pointer (some ⟨gb132, 0, none⟩)]] rfl (by (try simp only [List.map_toArray, List.map_cons, List.map_nil]); first | done | rfl | (simp only [List.length_drop, List.length_take]; rfl)) ?_; (with_reducible refine (api_Kind_36.calls k2 _ _ y134 ((rd_T58 l0_2 x18_2).f0) false _ ?side1 ?side2 gb132 ?sideg A16.out).mono ?_); (case side1 => repeat (first | exact (cB HR137.out bQ) | (with_reducible refine cA ?_ _) | (with_reducible refine cD ?_ _) | (with_reducible refine c1_ ?_))); (case side2 => exact HC137.out); (case sideg => exact (bC BK132.out 0).trans rfl); rintro e w66 ⟨rfl, hb⟩; refine ⟨_, rfl, ?_⟩; have n0_ := AM (kB (g := gb130) (o := .cells #[.slice A0_0 l0_0.length c0_0, .slice A0_1 l0_1.length c0_1, .slice (some ad131) l0_2.length c0_2, .int .i64 a0_3, .int .i64 a0_4] 26 (0, 0)) (kW BK130) hb); have n1_ := AM (kB (g := gb132) (o := .cells #[.string ((rd_T58 l0_2 x18_2).f0), .int .i64 ((rd_T58 l0_2 x18_2).f1), .int .i64 ((rd_T58 l0_2 x18_2).f2), .int .i64 ((rd_T58 l0_2 x18_2).f3)] 61 (0, 0)) (kW BK132) hb); have n2_ := AM (bT bQ hb); clear BK130; clear BK132; clear HB; have BK130 := n0_; have BK132 := n1_; have HB := n2_; clear n0_ n1_ n2_; (try clear hb); (try clear hb2); (try clear hk); (try clear hi); obtain ⟨_, _, _, _, _, _, _, _⟩ := bX4 BK132.out) | ((with_reducible refine gC (f := 43) rfl ?_); refine gL (some 38) rfl rfl Tryd.func43 (by kernel_rfl) rfl #[.int .i64 ((rd_T58 l0_2 x18_2).f1)] rfl (by (try simp only [List.map_toArray, List.map_cons, List.map_nil]); first | done | rfl | (simp only [List.length_drop, List.length_take]; rfl)) ?_; (with_reducible refine (table_sign.calls ((rd_T58 l0_2 x18_2).f1) false _ A26.out).mono ?_); rintro e w' ⟨rfl, ⟨nd, rfl⟩⟩; refine ⟨_, rfl, ?_⟩))
            go_ret
            exact ⟨by first | rfl | (simp [errW_none, errW_some] <;> rfl) | (simp [*, errW_none, errW_some] <;> rfl), by repeat (first | (with_reducible first | exact HB.out | apply bA | apply bD | apply b1 | refine bS ?_ GE130.out | refine bS ?_ GE132.out) | exact HB.out)⟩
          subst c27
          have H1 : ((table_sign.f ((rd_T58 l0_2 x18_2).f2)).bind fun t140 => (if t140 = true then ((table_sign.f ((rd_T58 l0_2 x18_2).f3)).bind fun t141 => (if t141 = true then (table_kinds.l0 k2 l0_2 (l0_2.length : Int) (wrap64 (x18_2 + 1)) l0_0 l0_1 l0_2 a0_3 a0_4) else (some 1))) else (some 1))) = some r := by rw [if_pos rfl] at H; exact H
          clear H
          have H := H1
          clear H1
          replace H := Option.bind_eq_some_iff.mp H
          obtain ⟨t140, A280, H⟩ := H
          replace H : (if t140 = true then ((table_sign.f ((rd_T58 l0_2 x18_2).f3)).bind fun t141 => (if t141 = true then (table_kinds.l0 k2 l0_2 (l0_2.length : Int) (wrap64 (x18_2 + 1)) l0_0 l0_1 l0_2 a0_3 a0_4) else (some 1))) else (some 1)) = some r := H
          have A28 := AM A280
          clear A280
          by_cases c29 : t140 = true
          rotate_left
          · replace c29 := Bool.eq_false_iff.mpr c29
            subst c29
            have H1 : (some 1) = some r := by rw [if_neg (show ¬ (false = true) by decide)] at H; exact H
            clear H
            have H := H1
            clear H1
            obtain rfl := Option.some.inj H
            have p131 : 0 ≤ (x18_2 : Int) := of_decide_eq_true (by first | (with_reducible assumption) | assumption)
            have q131 : x18_2 < (l0_2.length : Int) := of_decide_eq_true (by first | (with_reducible assumption) | assumption)
            obtain ⟨ad131, e131, hx131_0, hx131_1, hx131_2, hx131_3⟩ := at_T58 HR0_2.out x18_2 p131 q131
            cases e131
            replace hx131_0 := (HB.out.cell (bL w _ hx131_0)).trans hx131_0
            replace hx131_1 := (HB.out.cell (bL w _ hx131_1)).trans hx131_1
            replace hx131_2 := (HB.out.cell (bL w _ hx131_2)).trans hx131_2
            replace hx131_3 := (HB.out.cell (bL w _ hx131_3)).trans hx131_3
            replace p131 := eq_true p131
            replace q131 := eq_true q131
            go_wp2_with (first | ((with_reducible refine gD (N := 4) rfl ?_); (try (refine gG (by rfl) ?_; dsimp only)); refine bE ?hg (N := 4) ?hd (cs := #[.string (⟨#[]⟩ : ByteArray), .int .i64 0, .int .i64 0, .int .i64 0]) (t := 61) ?hr ?_; (case hd => rfl); (case hg => rfl); (case hr => first | (go_simp; done) | (go_simp; rfl)); intro gb132 hg w50 hbox hb; have n0_ := AM (kB (g := gb130) (o := .cells #[.slice A0_0 l0_0.length c0_0, .slice A0_1 l0_1.length c0_1, .slice (some ad131) l0_2.length c0_2, .int .i64 a0_3, .int .i64 a0_4] 26 (0, 0)) (kW BK130) hb); have n1_ := AM (bT bQ hb); have n2_ := AM (hbox); have n3_ := AM ((by rw [hg]; exact (bZ bQ) : w.heap.size ≤ gb132)); have n4_ := AM ((by rw [hg]; exact (bZ bQ) : w.heap.size ≤ gb132)); have n5_ := AM ((by rw [hg]; exact Nat.ne_of_lt (blk_lt (g := gb130) (o := .cells #[.slice A0_0 l0_0.length c0_0, .slice A0_1 l0_1.length c0_1, .slice (some ad131) l0_2.length c0_2, .int .i64 a0_3, .int .i64 a0_4] 26 (0, 0)) (kW BK130)) : gb130 ≠ gb132)); have n6_ := AM ((by rw [hg]; exact Nat.ne_of_gt (blk_lt (g := gb130) (o := .cells #[.slice A0_0 l0_0.length c0_0, .slice A0_1 l0_1.length c0_1, .slice (some ad131) l0_2.length c0_2, .int .i64 a0_3, .int .i64 a0_4] 26 (0, 0)) (kW BK130)) : gb132 ≠ gb130)); clear BK130; clear HB; have BK130 := n0_; have HB := n1_; have BK132 := n2_; have GW132 := n3_; have GE132 := n4_; have NB130_132 := n5_; have NB132_130 := n6_; clear n0_ n1_ n2_ n3_ n4_ n5_ n6_; clear hb hbox hg; have hnb51 := NB132_130.out; have hnc51 := NB130_132.out; obtain ⟨_, _, _, _, _, _, _, _⟩ := bX4 BK132.out) | ((with_reducible refine gS (t := 61) (p := 4) rfl ?_); refine sE (t := 61) (p := 4) (v := ?vo_w53) (w1 := ((((w50.setCell ⟨gb132, 0, none⟩ (.string ((rd_T58 l0_2 x18_2).f0))).setCell ⟨gb132, 1, none⟩ (.int .i64 ((rd_T58 l0_2 x18_2).f1))).setCell ⟨gb132, 2, none⟩ (.int .i64 ((rd_T58 l0_2 x18_2).f2))).setCell ⟨gb132, 3, none⟩ (.int .i64 ((rd_T58 l0_2 x18_2).f3)))) ?hg ?ho ?hn ?hr ?_; (case ho => rfl); (case hg => rfl); (case hn => rfl); (case hr => first | (go_simp; done) | (go_simp; rfl)); intro w53 hw; have n0_ : Aside0 (w53.heap[gb130]? = some (.cells #[.slice A0_0 l0_0.length c0_0, .slice A0_1 l0_1.length c0_1, .slice (some ad131) l0_2.length c0_2, .int .i64 a0_3, .int .i64 a0_4] 26 (0, 0))) := ⟨(by rw [hw]; exact (by (with_reducible repeat (first | refine kD ?_ _ | refine k1_ ?_ | refine kA ?_ _)); refine kF ?_ NB130_132.out _; (with_reducible repeat (first | refine kD ?_ _ | refine k1_ ?_ | refine kA ?_ _)); refine kF ?_ NB130_132.out _; (with_reducible repeat (first | refine kD ?_ _ | refine k1_ ?_ | refine kA ?_ _)); refine kF ?_ NB130_132.out _; (with_reducible repeat (first | refine kD ?_ _ | refine k1_ ?_ | refine kA ?_ _)); refine kF ?_ NB130_132.out _; (with_reducible repeat (first | refine kD ?_ _ | refine k1_ ?_ | refine kA ?_ _)); exact BK130.out))⟩; have n1_ : Aside0 (w53.heap[gb132]? = some (.cells #[.string ((rd_T58 l0_2 x18_2).f0), .int .i64 ((rd_T58 l0_2 x18_2).f1), .int .i64 ((rd_T58 l0_2 x18_2).f2), .int .i64 ((rd_T58 l0_2 x18_2).f3)] 61 (0, 0))) := ⟨(by rw [hw]; exact (by (with_reducible repeat (first | refine kD ?_ _ | refine k1_ ?_ | refine kA ?_ _)); refine kP (cs := #[.string ((rd_T58 l0_2 x18_2).f0), .int .i64 ((rd_T58 l0_2 x18_2).f1), .int .i64 ((rd_T58 l0_2 x18_2).f2), .int .i64 0]) ?_ 3 _ rfl; (with_reducible repeat (first | refine kD ?_ _ | refine k1_ ?_ | refine kA ?_ _)); refine kP (cs := #[.string ((rd_T58 l0_2 x18_2).f0), .int .i64 ((rd_T58 l0_2 x18_2).f1), .int .i64 0, .int .i64 0]) ?_ 2 _ rfl; (with_reducible repeat (first | refine kD ?_ _ | refine k1_ ?_ | refine kA ?_ _)); refine kP (cs := #[.string ((rd_T58 l0_2 x18_2).f0), .int .i64 0, .int .i64 0, .int .i64 0]) ?_ 1 _ rfl; (with_reducible repeat (first | refine kD ?_ _ | refine k1_ ?_ | refine kA ?_ _)); refine kP (cs := #[.string (⟨#[]⟩ : ByteArray), .int .i64 0, .int .i64 0, .int .i64 0]) ?_ 0 _ rfl; (with_reducible repeat (first | refine kD ?_ _ | refine k1_ ?_ | refine kA ?_ _)); exact BK132.out))⟩; have n2_ : Aside0 (Below w.heap.size w w53) := ⟨(by rw [hw]; exact bQ)⟩; clear hw; clear BK130; clear BK132; clear HB; have BK130 := n0_; have BK132 := n1_; have HB := n2_; clear n0_ n1_ n2_; obtain ⟨_, _, _, _, _, _, _, _⟩ := bX4 BK132.out) | ((with_reducible refine gC (f := 38) rfl ?_); refine gL (some 26) rfl rfl Tryd.func38 (by kernel_rfl) rfl #[.string ((rd_T58 l0_2 x18_2).f0)] rfl (by (try simp only [List.map_toArray, List.map_cons, List.map_nil]); first | done | rfl | (simp only [List.length_drop, List.length_take]; rfl)) ?_; (with_reducible refine (word_Name.calls k2 ((rd_T58 l0_2 x18_2).f0) true _ A12.out).mono ?_); rintro e w' ⟨rfl, ⟨nd, rfl⟩⟩; refine ⟨_, rfl, ?_⟩; obtain ⟨_, _, _, _, _, _, _, _, _, _⟩ := bX5 BK130.out; have q56 : (x18_2 : Int) ≤ ((l0_2.length : Int) : Int) := of_decide_eq_true (by first | (with_reducible assumption) | assumption); obtain ⟨i056, hi056, _, hsz56, _⟩ := info_parts info58; have hroom56 : l0_2.length ≤ c0_2 := HC0_2.out; have hC56 : Kd.C k58 _ (some ad131) l0_2.length l0_2 := HR0_2.out; have hcut56 := cut_to (P := Tryd.prog) 24 61 .i64 Tryd.underlying24 hi056 (some ad131) l0_2.length c0_2 x18_2 (of_decide_eq_true (by first | (with_reducible assumption) | assumption)) q56 hroom56; have hr56 := Kd.C_take (m := (x18_2 : Int).toNat) hC56 (by omega); have hy56 : y134.length = (x18_2 : Int).toNat := (by rw [Ny134.out, List.length_take]; omega); rw [← Ny134.out] at hr56; rw [← hy56] at hcut56; have HR137 := AM hr56; have HC137 := AM (show y134.length ≤ c0_2 from by omega); clear hr56 hC56 hroom56 hi056 hsz56; have KY56 := AM hy56; clear hy56; replace q56 := eq_true q56) | ((with_reducible refine gC (f := 41) rfl ?_); refine gL (some 34) rfl rfl Tryd.func41 (by kernel_rfl) rfl #[.slice (some ad131) y134.length c0_2, .func (.func 42) #[] #[.pointer (some ⟨gb132, 0, none⟩)]] rfl (by (try simp only [List.map_toArray, List.map_cons, List.map_nil]); first | done | rfl | (simp only [List.length_drop, List.length_take]; rfl)) ?_; (with_reducible refine (api_Kind_36.calls k2 _ _ y134 ((rd_T58 l0_2 x18_2).f0) false _ ?side1 ?side2 gb132 ?sideg A16.out).mono ?_); (case side1 => repeat (first | exact (cB HR137.out bQ) | (with_reducible refine cA ?_ _) | (with_reducible refine cD ?_ _) | (with_reducible refine c1_ ?_))); (case side2 => exact HC137.out); (case sideg => exact (bC BK132.out 0).trans rfl); rintro e w57 ⟨rfl, hb⟩; refine ⟨_, rfl, ?_⟩; have n0_ := AM (kB (g := gb130) (o := .cells #[.slice A0_0 l0_0.length c0_0, .slice A0_1 l0_1.length c0_1, .slice (some ad131) l0_2.length c0_2, .int .i64 a0_3, .int .i64 a0_4] 26 (0, 0)) (kW BK130) hb); have n1_ := AM (kB (g := gb132) (o := .cells #[.string ((rd_T58 l0_2 x18_2).f0), .int .i64 ((rd_T58 l0_2 x18_2).f1), .int .i64 ((rd_T58 l0_2 x18_2).f2), .int .i64 ((rd_T58 l0_2 x18_2).f3)] 61 (0, 0)) (kW BK132) hb); have n2_ := AM (bT bQ hb); clear BK130; clear BK132; clear HB; have BK130 := n0_; have BK132 := n1_; have HB := n2_; clear n0_ n1_ n2_; (try clear hb); (try clear hb2); (try clear hk); (try clear hi); obtain ⟨_, _, _, _, _, _, _, _⟩ := bX4 BK132.out) | ((with_reducible refine gC (f := 43) rfl ?_); refine gL (some 38) rfl rfl Tryd.func43 (by kernel_rfl) rfl #[.int .i64 ((rd_T58 l0_2 x18_2).f1)] rfl (by (try simp only [List.map_toArray, List.map_cons, List.map_nil]); first | done | rfl | (simp only [List.length_drop, List.length_take]; rfl)) ?_; (with_reducible refine (table_sign.calls ((rd_T58 l0_2 x18_2).f1) true _ A26.out).mono ?_); rintro e w' ⟨rfl, ⟨nd, rfl⟩⟩; refine ⟨_, rfl, ?_⟩) | (go_at_call 43; (with_reducible refine (table_sign.calls ((rd_T58 l0_2 x18_2).f2) false _ A28.out).mono ?_); rintro e w' ⟨rfl, ⟨nd, rfl⟩⟩))
            go_ret
            exact ⟨by first | rfl | (simp [errW_none, errW_some] <;> rfl) | (simp [*, errW_none, errW_some] <;> rfl), by repeat (first | (with_reducible first | exact HB.out | apply bA | apply bD | apply b1 | refine bS ?_ GE130.out | refine bS ?_ GE132.out) | exact HB.out)⟩
          subst c29
          have H1 : ((table_sign.f ((rd_T58 l0_2 x18_2).f3)).bind fun t141 => (if t141 = true then (table_kinds.l0 k2 l0_2 (l0_2.length : Int) (wrap64 (x18_2 + 1)) l0_0 l0_1 l0_2 a0_3 a0_4) else (some 1))) = some r := by rw [if_pos rfl] at H; exact H
          clear H
          have H := H1
          clear H1
          replace H := Option.bind_eq_some_iff.mp H
          obtain ⟨t141, A300, H⟩ := H
          replace H : (if t141 = true then (table_kinds.l0 k2 l0_2 (l0_2.length : Int) (wrap64 (x18_2 + 1)) l0_0 l0_1 l0_2 a0_3 a0_4) else (some 1)) = some r := H
          have A30 := AM A300
          clear A300
          by_cases c31 : t141 = true
          rotate_left
          · replace c31 := Bool.eq_false_iff.mpr c31
            subst c31
            have H1 : (some 1) = some r := by rw [if_neg (show ¬ (false = true) by decide)] at H; exact H
            clear H
            have H := H1
            clear H1
            obtain rfl := Option.some.inj H
            have p131 : 0 ≤ (x18_2 : Int) := of_decide_eq_true (by first | (with_reducible assumption) | assumption)
            have q131 : x18_2 < (l0_2.length : Int) := of_decide_eq_true (by first | (with_reducible assumption) | assumption)
            obtain ⟨ad131, e131, hx131_0, hx131_1, hx131_2, hx131_3⟩ := at_T58 HR0_2.out x18_2 p131 q131
            cases e131
            replace hx131_0 := (HB.out.cell (bL w _ hx131_0)).trans hx131_0
            replace hx131_1 := (HB.out.cell (bL w _ hx131_1)).trans hx131_1
            replace hx131_2 := (HB.out.cell (bL w _ hx131_2)).trans hx131_2
            replace hx131_3 := (HB.out.cell (bL w _ hx131_3)).trans hx131_3
            replace p131 := eq_true p131
            replace q131 := eq_true q131
            go_wp2_with (first | ((with_reducible refine gD (N := 4) rfl ?_); (try (refine gG (by rfl) ?_; dsimp only)); refine bE ?hg (N := 4) ?hd (cs := #[.string (⟨#[]⟩ : ByteArray), .int .i64 0, .int .i64 0, .int .i64 0]) (t := 61) ?hr ?_; (case hd => rfl); (case hg => rfl); (case hr => first | (go_simp; done) | (go_simp; rfl)); intro gb132 hg w41 hbox hb; have n0_ := AM (kB (g := gb130) (o := .cells #[.slice A0_0 l0_0.length c0_0, .slice A0_1 l0_1.length c0_1, .slice (some ad131) l0_2.length c0_2, .int .i64 a0_3, .int .i64 a0_4] 26 (0, 0)) (kW BK130) hb); have n1_ := AM (bT bQ hb); have n2_ := AM (hbox); have n3_ := AM ((by rw [hg]; exact (bZ bQ) : w.heap.size ≤ gb132)); have n4_ := AM ((by rw [hg]; exact (bZ bQ) : w.heap.size ≤ gb132)); have n5_ := AM ((by rw [hg]; exact Nat.ne_of_lt (blk_lt (g := gb130) (o := .cells #[.slice A0_0 l0_0.length c0_0, .slice A0_1 l0_1.length c0_1, .slice (some ad131) l0_2.length c0_2, .int .i64 a0_3, .int .i64 a0_4] 26 (0, 0)) (kW BK130)) : gb130 ≠ gb132)); have n6_ := AM ((by rw [hg]; exact Nat.ne_of_gt (blk_lt (g := gb130) (o := .cells #[.slice A0_0 l0_0.length c0_0, .slice A0_1 l0_1.length c0_1, .slice (some ad131) l0_2.length c0_2, .int .i64 a0_3, .int .i64 a0_4] 26 (0, 0)) (kW BK130)) : gb132 ≠ gb130)); clear BK130; clear HB; have BK130 := n0_; have HB := n1_; have BK132 := n2_; have GW132 := n3_; have GE132 := n4_; have NB130_132 := n5_; have NB132_130 := n6_; clear n0_ n1_ n2_ n3_ n4_ n5_ n6_; clear hb hbox hg; have hnb42 := NB132_130.out; have hnc42 := NB130_132.out; obtain ⟨_, _, _, _, _, _, _, _⟩ := bX4 BK132.out) | ((with_reducible refine gS (t := 61) (p := 4) rfl ?_); refine sE (t := 61) (p := 4) (v := ?vo_w44) (w1 := ((((w41.setCell ⟨gb132, 0, none⟩ (.string ((rd_T58 l0_2 x18_2).f0))).setCell ⟨gb132, 1, none⟩ (.int .i64 ((rd_T58 l0_2 x18_2).f1))).setCell ⟨gb132, 2, none⟩ (.int .i64 ((rd_T58 l0_2 x18_2).f2))).setCell ⟨gb132, 3, none⟩ (.int .i64 ((rd_T58 l0_2 x18_2).f3)))) ?hg ?ho ?hn ?hr ?_; (case ho => rfl); (case hg => rfl); (case hn => rfl); (case hr => first | (go_simp; done) | (go_simp; rfl)); intro w44 hw; have n0_ : Aside0 (w44.heap[gb130]? = some (.cells #[.slice A0_0 l0_0.length c0_0, .slice A0_1 l0_1.length c0_1, .slice (some ad131) l0_2.length c0_2, .int .i64 a0_3, .int .i64 a0_4] 26 (0, 0))) := ⟨(by rw [hw]; exact (by (with_reducible repeat (first | refine kD ?_ _ | refine k1_ ?_ | refine kA ?_ _)); refine kF ?_ NB130_132.out _; (with_reducible repeat (first | refine kD ?_ _ | refine k1_ ?_ | refine kA ?_ _)); refine kF ?_ NB130_132.out _; (with_reducible repeat (first | refine kD ?_ _ | refine k1_ ?_ | refine kA ?_ _)); refine kF ?_ NB130_132.out _; (with_reducible repeat (first | refine kD ?_ _ | refine k1_ ?_ | refine kA ?_ _)); refine kF ?_ NB130_132.out _; (with_reducible repeat (first | refine kD ?_ _ | refine k1_ ?_ | refine kA ?_ _)); exact BK130.out))⟩; have n1_ : Aside0 (w44.heap[gb132]? = some (.cells #[.string ((rd_T58 l0_2 x18_2).f0), .int .i64 ((rd_T58 l0_2 x18_2).f1), .int .i64 ((rd_T58 l0_2 x18_2).f2), .int .i64 ((rd_T58 l0_2 x18_2).f3)] 61 (0, 0))) := ⟨(by rw [hw]; exact (by (with_reducible repeat (first | refine kD ?_ _ | refine k1_ ?_ | refine kA ?_ _)); refine kP (cs := #[.string ((rd_T58 l0_2 x18_2).f0), .int .i64 ((rd_T58 l0_2 x18_2).f1), .int .i64 ((rd_T58 l0_2 x18_2).f2), .int .i64 0]) ?_ 3 _ rfl; (with_reducible repeat (first | refine kD ?_ _ | refine k1_ ?_ | refine kA ?_ _)); refine kP (cs := #[.string ((rd_T58 l0_2 x18_2).f0), .int .i64 ((rd_T58 l0_2 x18_2).f1), .int .i64 0, .int .i64 0]) ?_ 2 _ rfl; (with_reducible repeat (first | refine kD ?_ _ | refine k1_ ?_ | refine kA ?_ _)); refine kP (cs := #[.string ((rd_T58 l0_2 x18_2).f0), .int .i64 0, .int .i64 0, .int .i64 0]) ?_ 1 _ rfl; (with_reducible repeat (first | refine kD ?_ _ | refine k1_ ?_ | refine kA ?_ _)); refine kP (cs := #[.string (⟨#[]⟩ : ByteArray), .int .i64 0, .int .i64 0, .int .i64 0]) ?_ 0 _ rfl; (with_reducible repeat (first | refine kD ?_ _ | refine k1_ ?_ | refine kA ?_ _)); exact BK132.out))⟩; have n2_ : Aside0 (Below w.heap.size w w44) := ⟨(by rw [hw]; exact bQ)⟩; clear hw; clear BK130; clear BK132; clear HB; have BK130 := n0_; have BK132 := n1_; have HB := n2_; clear n0_ n1_ n2_; obtain ⟨_, _, _, _, _, _, _, _⟩ := bX4 BK132.out) | ((with_reducible refine gC (f := 38) rfl ?_); refine gL (some 26) rfl rfl Tryd.func38 (by kernel_rfl) rfl #[.string ((rd_T58 l0_2 x18_2).f0)] rfl (by (try simp only [List.map_toArray, List.map_cons, List.map_nil]); first | done | rfl | (simp only [List.length_drop, List.length_take]; rfl)) ?_; (with_reducible refine (word_Name.calls k2 ((rd_T58 l0_2 x18_2).f0) true _ A12.out).mono ?_); rintro e w' ⟨rfl, ⟨nd, rfl⟩⟩; refine ⟨_, rfl, ?_⟩; obtain ⟨_, _, _, _, _, _, _, _, _, _⟩ := bX5 BK130.out; have q47 : (x18_2 : Int) ≤ ((l0_2.length : Int) : Int) := of_decide_eq_true (by first | (with_reducible assumption) | assumption); obtain ⟨i047, hi047, _, hsz47, _⟩ := info_parts info58; have hroom47 : l0_2.length ≤ c0_2 := HC0_2.out; have hC47 : Kd.C k58 _ (some ad131) l0_2.length l0_2 := HR0_2.out; have hcut47 := cut_to (P := Tryd.prog) 24 61 .i64 Tryd.underlying24 hi047 (some ad131) l0_2.length c0_2 x18_2 (of_decide_eq_true (by first | (with_reducible assumption) | assumption)) q47 hroom47; have hr47 := Kd.C_take (m := (x18_2 : Int).toNat) hC47 (by omega); have hy47 : y134.length = (x18_2 : Int).toNat := (by rw [Ny134.out, List.length_take]; omega); rw [← Ny134.out] at hr47; rw [← hy47] at hcut47; have HR137 := AM hr47; have HC137 := AM (show y134.length ≤ c0_2 from by omega); clear hr47 hC47 hroom47 hi047 hsz47; have KY47 := AM hy47; clear hy47; replace q47 := eq_true q47) | ((with_reducible refine gC (f := 41) rfl ?_); refine gL (some 34) rfl rfl Tryd.func41 (by kernel_rfl) rfl #[.slice (some ad131) y134.length c0_2, .func (.func 42) #[] #[.pointer (some ⟨gb132, 0, none⟩)]] rfl (by (try simp only [List.map_toArray, List.map_cons, List.map_nil]); first | done | rfl | (simp only [List.length_drop, List.length_take]; rfl)) ?_; (with_reducible refine (api_Kind_36.calls k2 _ _ y134 ((rd_T58 l0_2 x18_2).f0) false _ ?side1 ?side2 gb132 ?sideg A16.out).mono ?_); (case side1 => repeat (first | exact (cB HR137.out bQ) | (with_reducible refine cA ?_ _) | (with_reducible refine cD ?_ _) | (with_reducible refine c1_ ?_))); (case side2 => exact HC137.out); (case sideg => exact (bC BK132.out 0).trans rfl); rintro e w48 ⟨rfl, hb⟩; refine ⟨_, rfl, ?_⟩; have n0_ := AM (kB (g := gb130) (o := .cells #[.slice A0_0 l0_0.length c0_0, .slice A0_1 l0_1.length c0_1, .slice (some ad131) l0_2.length c0_2, .int .i64 a0_3, .int .i64 a0_4] 26 (0, 0)) (kW BK130) hb); have n1_ := AM (kB (g := gb132) (o := .cells #[.string ((rd_T58 l0_2 x18_2).f0), .int .i64 ((rd_T58 l0_2 x18_2).f1), .int .i64 ((rd_T58 l0_2 x18_2).f2), .int .i64 ((rd_T58 l0_2 x18_2).f3)] 61 (0, 0)) (kW BK132) hb); have n2_ := AM (bT bQ hb); clear BK130; clear BK132; clear HB; have BK130 := n0_; have BK132 := n1_; have HB := n2_; clear n0_ n1_ n2_; (try clear hb); (try clear hb2); (try clear hk); (try clear hi); obtain ⟨_, _, _, _, _, _, _, _⟩ := bX4 BK132.out) | ((with_reducible refine gC (f := 43) rfl ?_); refine gL (some 38) rfl rfl Tryd.func43 (by kernel_rfl) rfl #[.int .i64 ((rd_T58 l0_2 x18_2).f1)] rfl (by (try simp only [List.map_toArray, List.map_cons, List.map_nil]); first | done | rfl | (simp only [List.length_drop, List.length_take]; rfl)) ?_; (with_reducible refine (table_sign.calls ((rd_T58 l0_2 x18_2).f1) true _ A26.out).mono ?_); rintro e w' ⟨rfl, ⟨nd, rfl⟩⟩; refine ⟨_, rfl, ?_⟩) | (go_at_call 43; (with_reducible refine (table_sign.calls ((rd_T58 l0_2 x18_2).f2) true _ A28.out).mono ?_); rintro e w' ⟨rfl, ⟨nd, rfl⟩⟩) | (go_at_call 43; (with_reducible refine (table_sign.calls ((rd_T58 l0_2 x18_2).f3) false _ A30.out).mono ?_); rintro e w' ⟨rfl, ⟨nd, rfl⟩⟩))
            go_ret
            exact ⟨by first | rfl | (simp [errW_none, errW_some] <;> rfl) | (simp [*, errW_none, errW_some] <;> rfl), by repeat (first | (with_reducible first | exact HB.out | apply bA | apply bD | apply b1 | refine bS ?_ GE130.out | refine bS ?_ GE132.out) | exact HB.out)⟩
          subst c31
          have H1 : (table_kinds.l0 k2 l0_2 (l0_2.length : Int) (wrap64 (x18_2 + 1)) l0_0 l0_1 l0_2 a0_3 a0_4) = some r := by rw [if_pos rfl] at H; exact H
          clear H
          have H := H1
          clear H1
          have H' := AM H
          clear H
          have p131 : 0 ≤ (x18_2 : Int) := of_decide_eq_true (by first | (with_reducible assumption) | assumption)
          have q131 : x18_2 < (l0_2.length : Int) := of_decide_eq_true (by first | (with_reducible assumption) | assumption)
          obtain ⟨ad131, e131, hx131_0, hx131_1, hx131_2, hx131_3⟩ := at_T58 HR0_2.out x18_2 p131 q131
          cases e131
          replace hx131_0 := (HB.out.cell (bL w _ hx131_0)).trans hx131_0
          replace hx131_1 := (HB.out.cell (bL w _ hx131_1)).trans hx131_1
          replace hx131_2 := (HB.out.cell (bL w _ hx131_2)).trans hx131_2
          replace hx131_3 := (HB.out.cell (bL w _ hx131_3)).trans hx131_3
          replace p131 := eq_true p131
          replace q131 := eq_true q131
          go_wp2_with (first | ((with_reducible refine gD (N := 4) rfl ?_); (try (refine gG (by rfl) ?_; dsimp only)); refine bE ?hg (N := 4) ?hd (cs := #[.string (⟨#[]⟩ : ByteArray), .int .i64 0, .int .i64 0, .int .i64 0]) (t := 61) ?hr ?_; (case hd => rfl); (case hg => rfl); (case hr => first | (go_simp; done) | (go_simp; rfl)); intro gb132 hg w32 hbox hb; have n0_ := AM (kB (g := gb130) (o := .cells #[.slice A0_0 l0_0.length c0_0, .slice A0_1 l0_1.length c0_1, .slice (some ad131) l0_2.length c0_2, .int .i64 a0_3, .int .i64 a0_4] 26 (0, 0)) (kW BK130) hb); have n1_ := AM (bT bQ hb); have n2_ := AM (hbox); have n3_ := AM ((by rw [hg]; exact (bZ bQ) : w.heap.size ≤ gb132)); have n4_ := AM ((by rw [hg]; exact (bZ bQ) : w.heap.size ≤ gb132)); have n5_ := AM ((by rw [hg]; exact Nat.ne_of_lt (blk_lt (g := gb130) (o := .cells #[.slice A0_0 l0_0.length c0_0, .slice A0_1 l0_1.length c0_1, .slice (some ad131) l0_2.length c0_2, .int .i64 a0_3, .int .i64 a0_4] 26 (0, 0)) (kW BK130)) : gb130 ≠ gb132)); have n6_ := AM ((by rw [hg]; exact Nat.ne_of_gt (blk_lt (g := gb130) (o := .cells #[.slice A0_0 l0_0.length c0_0, .slice A0_1 l0_1.length c0_1, .slice (some ad131) l0_2.length c0_2, .int .i64 a0_3, .int .i64 a0_4] 26 (0, 0)) (kW BK130)) : gb132 ≠ gb130)); clear BK130; clear HB; have BK130 := n0_; have HB := n1_; have BK132 := n2_; have GW132 := n3_; have GE132 := n4_; have NB130_132 := n5_; have NB132_130 := n6_; clear n0_ n1_ n2_ n3_ n4_ n5_ n6_; clear hb hbox hg; have hnb33 := NB132_130.out; have hnc33 := NB130_132.out; obtain ⟨_, _, _, _, _, _, _, _⟩ := bX4 BK132.out) | ((with_reducible refine gS (t := 61) (p := 4) rfl ?_); refine sE (t := 61) (p := 4) (v := ?vo_w35) (w1 := ((((w32.setCell ⟨gb132, 0, none⟩ (.string ((rd_T58 l0_2 x18_2).f0))).setCell ⟨gb132, 1, none⟩ (.int .i64 ((rd_T58 l0_2 x18_2).f1))).setCell ⟨gb132, 2, none⟩ (.int .i64 ((rd_T58 l0_2 x18_2).f2))).setCell ⟨gb132, 3, none⟩ (.int .i64 ((rd_T58 l0_2 x18_2).f3)))) ?hg ?ho ?hn ?hr ?_; (case ho => rfl); (case hg => rfl); (case hn => rfl); (case hr => first | (go_simp; done) | (go_simp; rfl)); intro w35 hw; have n0_ : Aside0 (w35.heap[gb130]? = some (.cells #[.slice A0_0 l0_0.length c0_0, .slice A0_1 l0_1.length c0_1, .slice (some ad131) l0_2.length c0_2, .int .i64 a0_3, .int .i64 a0_4] 26 (0, 0))) := ⟨(by rw [hw]; exact (by (with_reducible repeat (first | refine kD ?_ _ | refine k1_ ?_ | refine kA ?_ _)); refine kF ?_ NB130_132.out _; (with_reducible repeat (first | refine kD ?_ _ | refine k1_ ?_ | refine kA ?_ _)); refine kF ?_ NB130_132.out _; (with_reducible repeat (first | refine kD ?_ _ | refine k1_ ?_ | refine kA ?_ _)); refine kF ?_ NB130_132.out _; (with_reducible repeat (first | refine kD ?_ _ | refine k1_ ?_ | refine kA ?_ _)); refine kF ?_ NB130_132.out _; (with_reducible repeat (first | refine kD ?_ _ | refine k1_ ?_ | refine kA ?_ _)); exact BK130.out))⟩; have n1_ : Aside0 (w35.heap[gb132]? = some (.cells #[.string ((rd_T58 l0_2 x18_2).f0), .int .i64 ((rd_T58 l0_2 x18_2).f1), .int .i64 ((rd_T58 l0_2 x18_2).f2), .int .i64 ((rd_T58 l0_2 x18_2).f3)] 61 (0, 0))) := ⟨(by rw [hw]; exact (by (with_reducible repeat (first | refine kD ?_ _ | refine k1_ ?_ | refine kA ?_ _)); refine kP (cs := #[.string ((rd_T58 l0_2 x18_2).f0), .int .i64 ((rd_T58 l0_2 x18_2).f1), .int .i64 ((rd_T58 l0_2 x18_2).f2), .int .i64 0]) ?_ 3 _ rfl; (with_reducible repeat (first | refine kD ?_ _ | refine k1_ ?_ | refine kA ?_ _)); refine kP (cs := #[.string ((rd_T58 l0_2 x18_2).f0), .int .i64 ((rd_T58 l0_2 x18_2).f1), .int .i64 0, .int .i64 0]) ?_ 2 _ rfl; (with_reducible repeat (first | refine kD ?_ _ | refine k1_ ?_ | refine kA ?_ _)); refine kP (cs := #[.string ((rd_T58 l0_2 x18_2).f0), .int .i64 0, .int .i64 0, .int .i64 0]) ?_ 1 _ rfl; (with_reducible repeat (first | refine kD ?_ _ | refine k1_ ?_ | refine kA ?_ _)); refine kP (cs := #[.string (⟨#[]⟩ : ByteArray), .int .i64 0, .int .i64 0, .int .i64 0]) ?_ 0 _ rfl; (with_reducible repeat (first | refine kD ?_ _ | refine k1_ ?_ | refine kA ?_ _)); exact BK132.out))⟩; have n2_ : Aside0 (Below w.heap.size w w35) := ⟨(by rw [hw]; exact bQ)⟩; clear hw; clear BK130; clear BK132; clear HB; have BK130 := n0_; have BK132 := n1_; have HB := n2_; clear n0_ n1_ n2_; obtain ⟨_, _, _, _, _, _, _, _⟩ := bX4 BK132.out) | ((with_reducible refine gC (f := 38) rfl ?_); refine gL (some 26) rfl rfl Tryd.func38 (by kernel_rfl) rfl #[.string ((rd_T58 l0_2 x18_2).f0)] rfl (by (try simp only [List.map_toArray, List.map_cons, List.map_nil]); first | done | rfl | (simp only [List.length_drop, List.length_take]; rfl)) ?_; (with_reducible refine (word_Name.calls k2 ((rd_T58 l0_2 x18_2).f0) true _ A12.out).mono ?_); rintro e w' ⟨rfl, ⟨nd, rfl⟩⟩; refine ⟨_, rfl, ?_⟩; obtain ⟨_, _, _, _, _, _, _, _, _, _⟩ := bX5 BK130.out; have q38 : (x18_2 : Int) ≤ ((l0_2.length : Int) : Int) := of_decide_eq_true (by first | (with_reducible assumption) | assumption); obtain ⟨i038, hi038, _, hsz38, _⟩ := info_parts info58; have hroom38 : l0_2.length ≤ c0_2 := HC0_2.out; have hC38 : Kd.C k58 _ (some ad131) l0_2.length l0_2 := HR0_2.out; have hcut38 := cut_to (P := Tryd.prog) 24 61 .i64 Tryd.underlying24 hi038 (some ad131) l0_2.length c0_2 x18_2 (of_decide_eq_true (by first | (with_reducible assumption) | assumption)) q38 hroom38; have hr38 := Kd.C_take (m := (x18_2 : Int).toNat) hC38 (by omega); have hy38 : y134.length = (x18_2 : Int).toNat := (by rw [Ny134.out, List.length_take]; omega); rw [← Ny134.out] at hr38; rw [← hy38] at hcut38; have HR137 := AM hr38; have HC137 := AM (show y134.length ≤ c0_2 from by omega); clear hr38 hC38 hroom38 hi038 hsz38; have KY38 := AM hy38; clear hy38; replace q38 := eq_true q38) | ((with_reducible refine gC (f := 41) rfl ?_); refine gL (some 34) rfl rfl Tryd.func41 (by kernel_rfl) rfl #[.slice (some ad131) y134.length c0_2, .func (.func 42) #[] #[.pointer (some ⟨gb132, 0, none⟩)]] rfl (by (try simp only [List.map_toArray, List.map_cons, List.map_nil]); first | done | rfl | (simp only [List.length_drop, List.length_take]; rfl)) ?_; (with_reducible refine (api_Kind_36.calls k2 _ _ y134 ((rd_T58 l0_2 x18_2).f0) false _ ?side1 ?side2 gb132 ?sideg A16.out).mono ?_); (case side1 => repeat (first | exact (cB HR137.out bQ) | (with_reducible refine cA ?_ _) | (with_reducible refine cD ?_ _) | (with_reducible refine c1_ ?_))); (case side2 => exact HC137.out); (case sideg => exact (bC BK132.out 0).trans rfl); rintro e w39 ⟨rfl, hb⟩; refine ⟨_, rfl, ?_⟩; have n0_ := AM (kB (g := gb130) (o := .cells #[.slice A0_0 l0_0.length c0_0, .slice A0_1 l0_1.length c0_1, .slice (some ad131) l0_2.length c0_2, .int .i64 a0_3, .int .i64 a0_4] 26 (0, 0)) (kW BK130) hb); have n1_ := AM (kB (g := gb132) (o := .cells #[.string ((rd_T58 l0_2 x18_2).f0), .int .i64 ((rd_T58 l0_2 x18_2).f1), .int .i64 ((rd_T58 l0_2 x18_2).f2), .int .i64 ((rd_T58 l0_2 x18_2).f3)] 61 (0, 0)) (kW BK132) hb); have n2_ := AM (bT bQ hb); clear BK130; clear BK132; clear HB; have BK130 := n0_; have BK132 := n1_; have HB := n2_; clear n0_ n1_ n2_; (try clear hb); (try clear hb2); (try clear hk); (try clear hi); obtain ⟨_, _, _, _, _, _, _, _⟩ := bX4 BK132.out) | ((with_reducible refine gC (f := 43) rfl ?_); refine gL (some 38) rfl rfl Tryd.func43 (by kernel_rfl) rfl #[.int .i64 ((rd_T58 l0_2 x18_2).f1)] rfl (by (try simp only [List.map_toArray, List.map_cons, List.map_nil]); first | done | rfl | (simp only [List.length_drop, List.length_take]; rfl)) ?_; (with_reducible refine (table_sign.calls ((rd_T58 l0_2 x18_2).f1) true _ A26.out).mono ?_); rintro e w' ⟨rfl, ⟨nd, rfl⟩⟩; refine ⟨_, rfl, ?_⟩) | (go_at_call 43; (with_reducible refine (table_sign.calls ((rd_T58 l0_2 x18_2).f2) true _ A28.out).mono ?_); rintro e w' ⟨rfl, ⟨nd, rfl⟩⟩) | (go_at_call 43; (with_reducible refine (table_sign.calls ((rd_T58 l0_2 x18_2).f3) true _ A30.out).mono ?_); rintro e w' ⟨rfl, ⟨nd, rfl⟩⟩))
          go_roundg k2
          case measure => have := HJ1.out; have := HK2.out; omega
          case rel => exact ⟨(wrap64 (x18_2 + 1)), (by first | rfl | (simp; done) | (simp [*]; done)), H', ⟨by have := HJ1.out; have := HK2.out; omega⟩, ⟨by (with_reducible repeat (first | refine kD ?_ _ | refine k1_ ?_ | refine kA ?_ _)); exact BK130.out⟩, ⟨by repeat (first | (with_reducible first | exact HB.out | apply bA | apply bD | apply b1 | refine bS ?_ GE130.out | refine bS ?_ GE132.out) | exact HB.out)⟩⟩
end Go.Proofs.YtdllkibfikcfbaaDoor.K
