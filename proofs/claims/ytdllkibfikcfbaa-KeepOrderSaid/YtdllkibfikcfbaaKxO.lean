-- by a program of this session, over the kit's printer
import Derived.Test.YtdllkibfikcfbaaKx0
import Derived.Test.YtdllkibfikcfbaaKPatch
import Derived.Test.YtdllkibfikcfbaaKx6
import Derived.Test.YtdllkibfikcfbaaKx8
import Derived.Test.YtdllkibfikcfbaaKx9
import Derived.Test.YtdllkibfikcfbaaKx11
import Derived.Test.YtdllkibfikcfbaaKx12
import Derived.Test.YtdllkibfikcfbaaKxD
import Derived.Test.YtdllkibfikcfbaaKxR
namespace Go.Proofs.Ytdllkibfikcfbaa.K
open Go.RowKit Go.Proofs.YtdllkibfikcfbaaW.PrintWords Go.Proofs.YtdllkibfikcfbaaW.PrintLast Go.Proofs.YtdllkibfikcfbaaW.PrintMore
attribute [local go_sem] max2_int min2_int max_two min_two max_three min_three max_four min_four   -- for this text's walks alone
set_option linter.unusedVariables false
set_option linter.unusedSimpArgs false

/-! ### stipendlaw10_KeepOrder: function 6 -/
mutual
def stipendlaw10_KeepOrder.j0 : Nat → Bool → List (List (S41)) → List (S43) → List (S58) → Int → Int → Option (Bool)
  | 0, _, _, _, _, _, _ => none
  | k + 1, x19, x356000, x356001, x356002, x356003, x356004 => if x19 = true then (some true) else ((table_Clone.f k x356000 x356001 x356002 x356003 x356004).bind fun bt359 => ((keep_Worst.f k x356000 x356001 x356002 x356003 x356004).bind fun bt371 => ((keep_Worst.f k (bt359.1.reverse) (bt359.2.1.reverse) bt359.2.2.1 bt359.2.2.2.1 bt359.2.2.2.2).bind fun bt379 => (if bt379.2.2.2.2 = 0 then (if bt371.2.2.2.1 = bt379.2.2.2.1 then ((keep_Check.f k x356000 x356001 x356002 x356003 x356004).bind fun t387 => ((keep_Check.f k (bt359.1.reverse) (bt359.2.1.reverse) bt359.2.2.1 bt359.2.2.2.1 bt359.2.2.2.2).bind fun t388 => (stipendlaw10_KeepOrder.j1 k (t387 != t388) x356000 x356001 x356002 x356003 x356004 (bt359.1.reverse) (bt359.2.1.reverse) bt359.2.2.1 bt359.2.2.2.1 bt359.2.2.2.2 bt371.1 bt371.2.1 bt371.2.2.1 bt371.2.2.2.1))) else (stipendlaw10_KeepOrder.j1 k true x356000 x356001 x356002 x356003 x356004 (bt359.1.reverse) (bt359.2.1.reverse) bt359.2.2.1 bt359.2.2.2.1 bt359.2.2.2.2 bt371.1 bt371.2.1 bt371.2.2.1 bt371.2.2.2.1)) else (stipendlaw10_KeepOrder.j1 k true x356000 x356001 x356002 x356003 x356004 (bt359.1.reverse) (bt359.2.1.reverse) bt359.2.2.1 bt359.2.2.2.1 bt359.2.2.2.2 bt371.1 bt371.2.1 bt371.2.2.1 bt371.2.2.2.1)))))
def stipendlaw10_KeepOrder.j1 : Nat → Bool → List (List (S41)) → List (S43) → List (S58) → Int → Int → List (List (S41)) → List (S43) → List (S58) → Int → Int → Int → Int → List Int → Int → Option (Bool)
  | 0, _, _, _, _, _, _, _, _, _, _, _, _, _, _, _ => none
  | k + 1, x53, x356000, x356001, x356002, x356003, x356004, x371000, x371001, x371002, x371003, x371004, x379000, x379001, x379002, x379003 => if x53 = true then (some false) else (if (x371001.length : Int) = 0 then (some true) else ((keep_Worst.f k x371000 (x371001.drop 1) x371002 x371003 x371004).bind fun bt389 => (if bt389.2.2.2.1 ≥ x379003 then ((keep_Check.f k x356000 x356001 x356002 x356003 x356004).bind fun t397 => (if t397 = 0 then ((keep_Check.f k x371000 (x371001.drop 1) x371002 x371003 x371004).bind fun t398 => (if t398 = 0 then ((keep_Components.f x371000 (x371001.drop 1) x371002 x371003 x371004).bind fun t399 => ((keep_Components.f x356000 x356001 x356002 x356003 x356004).bind fun t400 => (some (t399 == (wrap64 (t400 - 1)))))) else (some false))) else ((keep_Components.f x371000 (x371001.drop 1) x371002 x371003 x371004).bind fun t401 => ((keep_Components.f x356000 x356001 x356002 x356003 x356004).bind fun t402 => (some (t401 == (wrap64 (t402 - 1)))))))) else (some false))))
end
def stipendlaw10_KeepOrder.f (k : Nat) (l0_0 : List (List (S41))) (l0_1 : List (S43)) (l0_2 : List (S58)) (a0_3 : Int) (a0_4 : Int) : Option (Bool) := (stipendlaw10_keeps.f).bind fun t356 => (if t356 = true then ((stipendlaw10_small.f k l0_0 l0_1 l0_2 a0_3 a0_4).bind fun t357 => (if t357 = true then ((table_Check.f k l0_0 l0_1 l0_2 a0_3 a0_4).bind fun t358 => (stipendlaw10_KeepOrder.j0 k (t358 != 0) l0_0 l0_1 l0_2 a0_3 a0_4)) else (stipendlaw10_KeepOrder.j0 k true l0_0 l0_1 l0_2 a0_3 a0_4))) else (some false))
def stipendlaw10_KeepOrder.T10 : Bool × List (List Nat × List Nat) := (true, [([], []), ([0], [0]), ([1], [1]), ([2], [2]), ([3, 2], [2, 3]), ([2], [2]), ([5, 2], [2, 5]), ([4, 6, 2], [2, 4, 6]), ([2, 7], [2, 7]), ([8, 2], [8]), ([9], [9]), ([10, 9, 9], [9, 10]), ([9], [9]), ([12, 11, 9], [9, 12]), ([11, 13, 9], [9, 11, 13]), ([9, 14], [9, 14])])
def stipendlaw10_KeepOrder.B10 : List Nat := [0, 1, 3, 7, 15, 7, 39, 127, 255, 511, 1023, 2047, 1023, 8191, 16383, 32767]
theorem stipendlaw10_KeepOrder.tab10 : rtab .any (opsOf Try.f6 10) = stipendlaw10_KeepOrder.T10 := by kernel_rfl
theorem stipendlaw10_KeepOrder.bits10 : waitsOk stipendlaw10_KeepOrder.T10.2 stipendlaw10_KeepOrder.B10 = true := by kernel_rfl
def stipendlaw10_KeepOrder.T16 : Bool × List (List Nat × List Nat) := (true, [([], []), ([0], [0]), ([], []), ([2], [2]), ([1, 3], [1, 3]), ([4], [4]), ([5], [5]), ([6, 5, 5], [5, 6]), ([7, 5], [5, 7]), ([8, 7, 5], [5, 8]), ([9], [9]), ([10, 9, 9], [9, 10]), ([11, 9], [9, 11]), ([9, 12, 5], [5, 9, 12]), ([5, 13], [5, 13]), ([14, 11], [14]), ([15], [15]), ([16, 15, 15], [15, 16]), ([15], [15]), ([18, 17, 15], [15, 18]), ([19, 15], [15, 19]), ([17, 20, 15], [15, 17, 20]), ([15, 21], [15, 21]), ([22, 19, 0, 1, 2, 3, 4, 5, 6, 7, 8, 9, 10, 11, 12, 13, 14, 15, 16, 17, 18, 19, 20, 21, 22], [22])])
def stipendlaw10_KeepOrder.B16 : List Nat := [0, 1, 0, 4, 15, 31, 63, 127, 255, 511, 1023, 2047, 4095, 8191, 16383, 32767, 65535, 131071, 65535, 524287, 1048575, 2097151, 4194303, 8388607]
theorem stipendlaw10_KeepOrder.tab16 : rtab .any (opsOf Try.f6 16) = stipendlaw10_KeepOrder.T16 := by kernel_rfl
theorem stipendlaw10_KeepOrder.bits16 : waitsOk stipendlaw10_KeepOrder.T16.2 stipendlaw10_KeepOrder.B16 = true := by kernel_rfl
set_option maxHeartbeats 8000000 in
set_option maxRecDepth 100000 in
theorem stipendlaw10_KeepOrder.calls (k : Nat) (A0_0 : Option Addr) (c0_0 : Nat) (l0_0 : List (List (S41))) (A0_1 : Option Addr) (c0_1 : Nat) (l0_1 : List (S43)) (A0_2 : Option Addr) (c0_2 : Nat) (l0_2 : List (S58)) (a0_3 : Int) (a0_4 : Int) (r : Bool) (w : World) (hr0_0 : Kd.C (Kd.slice 41 k41) w A0_0 l0_0.length l0_0) (hc0_0 : l0_0.length ≤ c0_0) (hr0_1 : Kd.C k43 w A0_1 l0_1.length l0_1) (hc0_1 : l0_1.length ≤ c0_1) (hr0_2 : Kd.C k58 w A0_2 l0_2.length l0_2) (hc0_2 : l0_2.length ≤ c0_2) (hrt : r = true) (h : stipendlaw10_KeepOrder.f k l0_0 l0_1 l0_2 a0_3 a0_4 = some r) :
    Calls Try.prog 6 #[.agg #[.slice A0_0 l0_0.length c0_0, .slice A0_1 l0_1.length c0_1, .slice A0_2 l0_2.length c0_2, .int .i64 a0_3, .int .i64 a0_4]] w fun e w' => e = .returned (.bool r) ∧ Below w.heap.size w w' := by
  have HRT := AM hrt
  clear hrt
  have hu26 := Try.underlying26
  have hu33 := Try.underlying33
  have HR0_0 := AM hr0_0
  have HC0_0 := AM hc0_0
  clear hr0_0 hc0_0
  have HR0_1 := AM hr0_1
  have HC0_1 := AM hc0_1
  clear hr0_1 hc0_1
  have HR0_2 := AM hr0_2
  have HC0_2 := AM hc0_2
  clear hr0_2 hc0_2
  have HB := AM (Below.refl w.heap.size w)
  have H : ((stipendlaw10_keeps.f).bind fun t356 => (if t356 = true then ((stipendlaw10_small.f k l0_0 l0_1 l0_2 a0_3 a0_4).bind fun t357 => (if t357 = true then ((table_Check.f k l0_0 l0_1 l0_2 a0_3 a0_4).bind fun t358 => (stipendlaw10_KeepOrder.j0 k (t358 != 0) l0_0 l0_1 l0_2 a0_3 a0_4)) else (stipendlaw10_KeepOrder.j0 k true l0_0 l0_1 l0_2 a0_3 a0_4))) else (some false))) = some r := h
  clear h
  replace H := Option.bind_eq_some_iff.mp H
  obtain ⟨t356, A20, H⟩ := H
  replace H : (if t356 = true then ((stipendlaw10_small.f k l0_0 l0_1 l0_2 a0_3 a0_4).bind fun t357 => (if t357 = true then ((table_Check.f k l0_0 l0_1 l0_2 a0_3 a0_4).bind fun t358 => (stipendlaw10_KeepOrder.j0 k (t358 != 0) l0_0 l0_1 l0_2 a0_3 a0_4)) else (stipendlaw10_KeepOrder.j0 k true l0_0 l0_1 l0_2 a0_3 a0_4))) else (some false)) = some r := H
  have A2 := AM A20
  clear A20
  by_cases c3 : t356 = true
  rotate_left
  · replace c3 := Bool.eq_false_iff.mpr c3
    subst c3
    have H1 : (some false) = some r := by rw [if_neg (show ¬ (false = true) by decide)] at H; exact H
    clear H
    have H := H1
    clear H1
    exact absurd (Option.some.inj H) (by rw [HRT.out]; decide)

  subst c3
  have H1 : ((stipendlaw10_small.f k l0_0 l0_1 l0_2 a0_3 a0_4).bind fun t357 => (if t357 = true then ((table_Check.f k l0_0 l0_1 l0_2 a0_3 a0_4).bind fun t358 => (stipendlaw10_KeepOrder.j0 k (t358 != 0) l0_0 l0_1 l0_2 a0_3 a0_4)) else (stipendlaw10_KeepOrder.j0 k true l0_0 l0_1 l0_2 a0_3 a0_4))) = some r := by rw [if_pos rfl] at H; exact H
  clear H
  have H := H1
  clear H1
  have HC4 := AM H
  clear H
  go_enter Try.func6, Try.ntmps6
  go_upto_region 3 with (first | ((with_reducible refine gD (N := 1) rfl ?_); refine bE ?hg (N := 1) ?hd (cs := #[.slice A0_0 l0_0.length c0_0, .slice A0_1 l0_1.length c0_1, .slice A0_2 l0_2.length c0_2, .int .i64 a0_3, .int .i64 a0_4]) (t := 26) ?hr ?_; (case hd => rfl); (case hg => rfl); (case hr => first | (go_simp; done) | (go_simp; rfl)); intro gb355 hg w5 hbox hb; have n0_ := AM (bT (by repeat (first | (with_reducible first | exact HB.out | apply bA | apply bD | apply b1) | exact HB.out)) hb); have n1_ := AM (hbox); have n2_ := AM ((by rw [hg]; exact (bZ (by repeat (first | (with_reducible first | exact HB.out | apply bA | apply bD | apply b1) | exact HB.out))) : w.heap.size ≤ gb355)); have n3_ := AM ((by rw [hg]; exact (bZ (by repeat (first | (with_reducible first | exact HB.out | apply bA | apply bD | apply b1) | exact HB.out))) : w.heap.size ≤ gb355)); clear HB; have HB := n0_; have BK355 := n1_; have GW355 := n2_; have GE355 := n3_; clear n0_ n1_ n2_ n3_; clear hb hbox hg) | ((with_reducible refine gC (f := 7) rfl ?_); refine gL (some 10) rfl rfl Try.func7 (by kernel_rfl) rfl #[] rfl (by (try simp only [List.map_toArray, List.map_cons, List.map_nil]); first | done | rfl | (simp only [List.length_drop, List.length_take]; rfl)) ?_; (with_reducible refine (stipendlaw10_keeps.calls  true _ A2.out).mono ?_); rintro e w6 ⟨rfl, hb⟩; refine ⟨_, rfl, ?_⟩; have n0_ := AM (kB (g := gb355) (o := .cells #[.slice A0_0 l0_0.length c0_0, .slice A0_1 l0_1.length c0_1, .slice A0_2 l0_2.length c0_2, .int .i64 a0_3, .int .i64 a0_4] 26 (0, 0)) (by (with_reducible repeat (first | refine kD ?_ _ | refine k1_ ?_ | refine kA ?_ _)); exact BK355.out) hb); have n1_ := AM (bT (by repeat (first | (with_reducible first | exact HB.out | apply bA | apply bD | apply b1 | refine bS ?_ GE355.out) | exact HB.out)) hb); clear BK355; clear HB; have BK355 := n0_; have HB := n1_; clear n0_ n1_; (try clear hb); (try clear hb2); (try clear hk); (try clear hi)))
  (try simp only [Act.put, List.setIfInBounds_toArray, List.set_cons_zero, List.set_cons_succ])
  go_cut [19] (fun v19 wc => ∃ (kq : Nat) (x19_3 : Bool), v19 = .bool x19_3 ∧ Aside0 (stipendlaw10_KeepOrder.j0 kq x19_3 l0_0 l0_1 l0_2 a0_3 a0_4 = some r) ∧ Aside0 (kq ≤ k) ∧ Aside0 (wc.heap[gb355]? = some (.cells #[(.slice A0_0 l0_0.length c0_0), (.slice A0_1 l0_1.length c0_1), (.slice A0_2 l0_2.length c0_2), .int .i64 a0_3, .int .i64 a0_4] 26 (0, 0))) ∧ Aside0 (Below w.heap.size w wc))
  case first =>
    have H := HC4.out
    clear HC4
    replace H := Option.bind_eq_some_iff.mp H
    obtain ⟨t357, A70, H⟩ := H
    replace H : (if t357 = true then ((table_Check.f k l0_0 l0_1 l0_2 a0_3 a0_4).bind fun t358 => (stipendlaw10_KeepOrder.j0 k (t358 != 0) l0_0 l0_1 l0_2 a0_3 a0_4)) else (stipendlaw10_KeepOrder.j0 k true l0_0 l0_1 l0_2 a0_3 a0_4)) = some r := H
    have A7 := AM A70
    clear A70
    by_cases c8 : t357 = true
    rotate_left
    · replace c8 := Bool.eq_false_iff.mpr c8
      subst c8
      have H1 : (stipendlaw10_KeepOrder.j0 k true l0_0 l0_1 l0_2 a0_3 a0_4) = some r := by rw [if_neg (show ¬ (false = true) by decide)] at H; exact H
      clear H
      have H := H1
      clear H1
      have H' := AM H
      clear H
      have hcz14_0 : w6.cell? ⟨gb355, 0, none⟩ = some (.slice A0_0 l0_0.length c0_0) := (bC BK355.out 0).trans rfl
      have hcz14_1 : w6.cell? ⟨gb355, 1, none⟩ = some (.slice A0_1 l0_1.length c0_1) := (bC BK355.out 1).trans rfl
      have hcz14_2 : w6.cell? ⟨gb355, 2, none⟩ = some (.slice A0_2 l0_2.length c0_2) := (bC BK355.out 2).trans rfl
      have hcz14_3 : w6.cell? ⟨gb355, 3, none⟩ = some (.int .i64 a0_3) := (bC BK355.out 3).trans rfl
      have hcz14_4 : w6.cell? ⟨gb355, 4, none⟩ = some (.int .i64 a0_4) := (bC BK355.out 4).trans rfl
      have hfz14_0 := bF BK355.out 0
      have hfz14_1 := bF BK355.out 1
      have hfz14_2 := bF BK355.out 2
      have hfz14_3 := bF BK355.out 3
      have hfz14_4 := bF BK355.out 4
      go_wp2_with (first | ((with_reducible refine gC (f := 8) rfl ?_); refine gL (some 13) rfl rfl Try.func8 (by kernel_rfl) rfl #[.agg #[.slice A0_0 l0_0.length c0_0, .slice A0_1 l0_1.length c0_1, .slice A0_2 l0_2.length c0_2, .int .i64 a0_3, .int .i64 a0_4]] rfl (by (try simp only [List.map_toArray, List.map_cons, List.map_nil]); first | done | rfl | (simp only [List.length_drop, List.length_take]; rfl)) ?_; (with_reducible refine (stipendlaw10_small.calls k _ _ l0_0 _ _ l0_1 _ _ l0_2 a0_3 a0_4 false _ ?side1 ?side2 ?side3 ?side4 ?side5 ?side6 A7.out).mono ?_); (case side1 => repeat (first | exact (cB HR0_0.out HB.out) | (with_reducible refine cA ?_ _) | (with_reducible refine cD ?_ _) | (with_reducible refine c1_ ?_))); (case side2 => exact HC0_0.out); (case side3 => repeat (first | exact (cB HR0_1.out HB.out) | (with_reducible refine cA ?_ _) | (with_reducible refine cD ?_ _) | (with_reducible refine c1_ ?_))); (case side4 => exact HC0_1.out); (case side5 => repeat (first | exact (cB HR0_2.out HB.out) | (with_reducible refine cA ?_ _) | (with_reducible refine cD ?_ _) | (with_reducible refine c1_ ?_))); (case side6 => exact HC0_2.out); rintro e w15 ⟨rfl, hb⟩; refine ⟨_, rfl, ?_⟩; have n0_ := AM (kB (g := gb355) (o := .cells #[.slice A0_0 l0_0.length c0_0, .slice A0_1 l0_1.length c0_1, .slice A0_2 l0_2.length c0_2, .int .i64 a0_3, .int .i64 a0_4] 26 (0, 0)) (by (with_reducible repeat (first | refine kD ?_ _ | refine k1_ ?_ | refine kA ?_ _)); exact BK355.out) hb); have n1_ := AM (bT (by repeat (first | (with_reducible first | exact HB.out | apply bA | apply bD | apply b1 | refine bS ?_ GE355.out) | exact HB.out)) hb); clear BK355; clear HB; have BK355 := n0_; have HB := n1_; clear n0_ n1_; (try clear hb); (try clear hb2); (try clear hk); (try clear hi)))
      go_meet
      case rel => exact ⟨_, (true), (by first | rfl | (simp; done) | (simp [*]; done)), H', ⟨by first | omega | exact Nat.le_refl _⟩, ⟨by (with_reducible repeat (first | refine kD ?_ _ | refine k1_ ?_ | refine kA ?_ _)); exact BK355.out⟩, ⟨by repeat (first | (with_reducible first | exact HB.out | apply bA | apply bD | apply b1 | refine bS ?_ GE355.out) | exact HB.out)⟩⟩
    subst c8
    have H1 : ((table_Check.f k l0_0 l0_1 l0_2 a0_3 a0_4).bind fun t358 => (stipendlaw10_KeepOrder.j0 k (t358 != 0) l0_0 l0_1 l0_2 a0_3 a0_4)) = some r := by rw [if_pos rfl] at H; exact H
    clear H
    have H := H1
    clear H1
    replace H := Option.bind_eq_some_iff.mp H
    obtain ⟨t358, A90, H⟩ := H
    replace H : (stipendlaw10_KeepOrder.j0 k (t358 != 0) l0_0 l0_1 l0_2 a0_3 a0_4) = some r := H
    have A9 := AM A90
    clear A90
    have H' := AM H
    clear H
    have hcz10_0 : w6.cell? ⟨gb355, 0, none⟩ = some (.slice A0_0 l0_0.length c0_0) := (bC BK355.out 0).trans rfl
    have hcz10_1 : w6.cell? ⟨gb355, 1, none⟩ = some (.slice A0_1 l0_1.length c0_1) := (bC BK355.out 1).trans rfl
    have hcz10_2 : w6.cell? ⟨gb355, 2, none⟩ = some (.slice A0_2 l0_2.length c0_2) := (bC BK355.out 2).trans rfl
    have hcz10_3 : w6.cell? ⟨gb355, 3, none⟩ = some (.int .i64 a0_3) := (bC BK355.out 3).trans rfl
    have hcz10_4 : w6.cell? ⟨gb355, 4, none⟩ = some (.int .i64 a0_4) := (bC BK355.out 4).trans rfl
    have hfz10_0 := bF BK355.out 0
    have hfz10_1 := bF BK355.out 1
    have hfz10_2 := bF BK355.out 2
    have hfz10_3 := bF BK355.out 3
    have hfz10_4 := bF BK355.out 4
    go_wp2_with (first | ((with_reducible refine gC (f := 8) rfl ?_); refine gL (some 13) rfl rfl Try.func8 (by kernel_rfl) rfl #[.agg #[.slice A0_0 l0_0.length c0_0, .slice A0_1 l0_1.length c0_1, .slice A0_2 l0_2.length c0_2, .int .i64 a0_3, .int .i64 a0_4]] rfl (by (try simp only [List.map_toArray, List.map_cons, List.map_nil]); first | done | rfl | (simp only [List.length_drop, List.length_take]; rfl)) ?_; (with_reducible refine (stipendlaw10_small.calls k _ _ l0_0 _ _ l0_1 _ _ l0_2 a0_3 a0_4 true _ ?side1 ?side2 ?side3 ?side4 ?side5 ?side6 A7.out).mono ?_); (case side1 => repeat (first | exact (cB HR0_0.out HB.out) | (with_reducible refine cA ?_ _) | (with_reducible refine cD ?_ _) | (with_reducible refine c1_ ?_))); (case side2 => exact HC0_0.out); (case side3 => repeat (first | exact (cB HR0_1.out HB.out) | (with_reducible refine cA ?_ _) | (with_reducible refine cD ?_ _) | (with_reducible refine c1_ ?_))); (case side4 => exact HC0_1.out); (case side5 => repeat (first | exact (cB HR0_2.out HB.out) | (with_reducible refine cA ?_ _) | (with_reducible refine cD ?_ _) | (with_reducible refine c1_ ?_))); (case side6 => exact HC0_2.out); rintro e w11 ⟨rfl, hb⟩; refine ⟨_, rfl, ?_⟩; have n0_ := AM (kB (g := gb355) (o := .cells #[.slice A0_0 l0_0.length c0_0, .slice A0_1 l0_1.length c0_1, .slice A0_2 l0_2.length c0_2, .int .i64 a0_3, .int .i64 a0_4] 26 (0, 0)) (by (with_reducible repeat (first | refine kD ?_ _ | refine k1_ ?_ | refine kA ?_ _)); exact BK355.out) hb); have n1_ := AM (bT (by repeat (first | (with_reducible first | exact HB.out | apply bA | apply bD | apply b1 | refine bS ?_ GE355.out) | exact HB.out)) hb); clear BK355; clear HB; have BK355 := n0_; have HB := n1_; clear n0_ n1_; (try clear hb); (try clear hb2); (try clear hk); (try clear hi); have hcz12_0 : w11.cell? ⟨gb355, 0, none⟩ = some (.slice A0_0 l0_0.length c0_0) := (bC BK355.out 0).trans rfl; have hcz12_1 : w11.cell? ⟨gb355, 1, none⟩ = some (.slice A0_1 l0_1.length c0_1) := (bC BK355.out 1).trans rfl; have hcz12_2 : w11.cell? ⟨gb355, 2, none⟩ = some (.slice A0_2 l0_2.length c0_2) := (bC BK355.out 2).trans rfl; have hcz12_3 : w11.cell? ⟨gb355, 3, none⟩ = some (.int .i64 a0_3) := (bC BK355.out 3).trans rfl; have hcz12_4 : w11.cell? ⟨gb355, 4, none⟩ = some (.int .i64 a0_4) := (bC BK355.out 4).trans rfl; have hfz12_0 := bF BK355.out 0; have hfz12_1 := bF BK355.out 1; have hfz12_2 := bF BK355.out 2; have hfz12_3 := bF BK355.out 3; have hfz12_4 := bF BK355.out 4) | (go_at_call 10; (with_reducible refine (table_Check.calls k _ _ l0_0 _ _ l0_1 _ _ l0_2 a0_3 a0_4 t358 _ ?side1 ?side2 ?side3 ?side4 ?side5 ?side6 A9.out).mono ?_); (case side1 => repeat (first | exact (cB HR0_0.out HB.out) | (with_reducible refine cA ?_ _) | (with_reducible refine cD ?_ _) | (with_reducible refine c1_ ?_))); (case side2 => exact HC0_0.out); (case side3 => repeat (first | exact (cB HR0_1.out HB.out) | (with_reducible refine cA ?_ _) | (with_reducible refine cD ?_ _) | (with_reducible refine c1_ ?_))); (case side4 => exact HC0_1.out); (case side5 => repeat (first | exact (cB HR0_2.out HB.out) | (with_reducible refine cA ?_ _) | (with_reducible refine cD ?_ _) | (with_reducible refine c1_ ?_))); (case side6 => exact HC0_2.out); rintro e w13 ⟨rfl, hb⟩; have n0_ := AM (kB (g := gb355) (o := .cells #[.slice A0_0 l0_0.length c0_0, .slice A0_1 l0_1.length c0_1, .slice A0_2 l0_2.length c0_2, .int .i64 a0_3, .int .i64 a0_4] 26 (0, 0)) (by (with_reducible repeat (first | refine kD ?_ _ | refine k1_ ?_ | refine kA ?_ _)); exact BK355.out) hb); have n1_ := AM (bT (by repeat (first | (with_reducible first | exact HB.out | apply bA | apply bD | apply b1 | refine bS ?_ GE355.out) | exact HB.out)) hb); clear BK355; clear HB; have BK355 := n0_; have HB := n1_; clear n0_ n1_; (try clear hb); (try clear hb2); (try clear hk); (try clear hi)))
    go_meet
    case rel => exact ⟨_, ((t358 != 0)), (by first | rfl | (simp; done) | (simp [*]; done)), H', ⟨by first | omega | exact Nat.le_refl _⟩, ⟨by (with_reducible repeat (first | refine kD ?_ _ | refine k1_ ?_ | refine kA ?_ _)); exact BK355.out⟩, ⟨by repeat (first | (with_reducible first | exact HB.out | apply bA | apply bD | apply b1 | refine bS ?_ GE355.out) | exact HB.out)⟩⟩
  case rest =>
    clear HC4
    (try clear p2); (try clear c3); (try clear c6); (try clear c7); (try clear c8); (try clear hcz10_0); (try clear hcz10_1); (try clear hcz10_2); (try clear hcz10_3); (try clear hcz10_4); (try clear hcz12_0); (try clear hcz12_1); (try clear hcz12_2); (try clear hcz12_3); (try clear hcz12_4); (try clear hcz14_0); (try clear hcz14_1); (try clear hcz14_2); (try clear hcz14_3); (try clear hcz14_4); (try clear hfz10_0); (try clear hfz10_1); (try clear hfz10_2); (try clear hfz10_3); (try clear hfz10_4); (try clear hfz12_0); (try clear hfz12_1); (try clear hfz12_2); (try clear hfz12_3); (try clear hfz12_4); (try clear hfz14_0); (try clear hfz14_1); (try clear hfz14_2); (try clear hfz14_3); (try clear hfz14_4)
    obtain ⟨kq, x19_3, rfl, HA, HJ3, BK355, HB⟩ := hcut
    cases kq with
    | zero => exact absurd HA.out (by simp [stipendlaw10_KeepOrder.j0])
    | succ kj3 =>
      have H := HA.out
      clear HA
      simp only [stipendlaw10_KeepOrder.j0] at H
      by_cases c16 : x19_3 = true
      · subst c16
        have H1 : (some true) = some r := by rw [if_pos rfl] at H; exact H
        clear H
        have H := H1
        clear H1
        obtain rfl := Option.some.inj H
        go_wp2
        go_ret
        exact ⟨by first | rfl | (simp [errW_none, errW_some] <;> rfl) | (simp [*, errW_none, errW_some] <;> rfl), by repeat (first | (with_reducible first | exact HB.out | apply bA | apply bD | apply b1 | refine bS ?_ GE355.out) | exact HB.out)⟩
      replace c16 := Bool.eq_false_iff.mpr c16
      subst c16
      have H1 : ((table_Clone.f kj3 l0_0 l0_1 l0_2 a0_3 a0_4).bind fun bt359 => ((keep_Worst.f kj3 l0_0 l0_1 l0_2 a0_3 a0_4).bind fun bt371 => ((keep_Worst.f kj3 (bt359.1.reverse) (bt359.2.1.reverse) bt359.2.2.1 bt359.2.2.2.1 bt359.2.2.2.2).bind fun bt379 => (if bt379.2.2.2.2 = 0 then (if bt371.2.2.2.1 = bt379.2.2.2.1 then ((keep_Check.f kj3 l0_0 l0_1 l0_2 a0_3 a0_4).bind fun t387 => ((keep_Check.f kj3 (bt359.1.reverse) (bt359.2.1.reverse) bt359.2.2.1 bt359.2.2.2.1 bt359.2.2.2.2).bind fun t388 => (stipendlaw10_KeepOrder.j1 kj3 (t387 != t388) l0_0 l0_1 l0_2 a0_3 a0_4 (bt359.1.reverse) (bt359.2.1.reverse) bt359.2.2.1 bt359.2.2.2.1 bt359.2.2.2.2 bt371.1 bt371.2.1 bt371.2.2.1 bt371.2.2.2.1))) else (stipendlaw10_KeepOrder.j1 kj3 true l0_0 l0_1 l0_2 a0_3 a0_4 (bt359.1.reverse) (bt359.2.1.reverse) bt359.2.2.1 bt359.2.2.2.1 bt359.2.2.2.2 bt371.1 bt371.2.1 bt371.2.2.1 bt371.2.2.2.1)) else (stipendlaw10_KeepOrder.j1 kj3 true l0_0 l0_1 l0_2 a0_3 a0_4 (bt359.1.reverse) (bt359.2.1.reverse) bt359.2.2.1 bt359.2.2.2.1 bt359.2.2.2.2 bt371.1 bt371.2.1 bt371.2.2.1 bt371.2.2.2.1))))) = some r := by rw [if_neg (show ¬ (false = true) by decide)] at H; exact H
      clear H
      have H := H1
      clear H1
      replace H := Option.bind_eq_some_iff.mp H
      obtain ⟨⟨s359, s362, t365, t368, t369⟩, A170, H⟩ := H
      obtain ⟨t359, ht359⟩ : ∃ t_ : List (List (S41)), t_ = s359.reverse := ⟨_, rfl⟩
      obtain ⟨t362, ht362⟩ : ∃ t_ : List (S43), t_ = s362.reverse := ⟨_, rfl⟩
      have hl359 : s359.length = t359.length := by rw [ht359, List.length_reverse]
      have hl362 : s362.length = t362.length := by rw [ht362, List.length_reverse]
      replace H : ((keep_Worst.f kj3 l0_0 l0_1 l0_2 a0_3 a0_4).bind fun bt371 => ((keep_Worst.f kj3 t359 t362 t365 t368 t369).bind fun bt379 => (if bt379.2.2.2.2 = 0 then (if bt371.2.2.2.1 = bt379.2.2.2.1 then ((keep_Check.f kj3 l0_0 l0_1 l0_2 a0_3 a0_4).bind fun t387 => ((keep_Check.f kj3 t359 t362 t365 t368 t369).bind fun t388 => (stipendlaw10_KeepOrder.j1 kj3 (t387 != t388) l0_0 l0_1 l0_2 a0_3 a0_4 t359 t362 t365 t368 t369 bt371.1 bt371.2.1 bt371.2.2.1 bt371.2.2.2.1))) else (stipendlaw10_KeepOrder.j1 kj3 true l0_0 l0_1 l0_2 a0_3 a0_4 t359 t362 t365 t368 t369 bt371.1 bt371.2.1 bt371.2.2.1 bt371.2.2.2.1)) else (stipendlaw10_KeepOrder.j1 kj3 true l0_0 l0_1 l0_2 a0_3 a0_4 t359 t362 t365 t368 t369 bt371.1 bt371.2.1 bt371.2.2.1 bt371.2.2.2.1)))) = some r := by rw [ht359, ht362]; exact H
      have HT359 := AM ht359
      have HT362 := AM ht362
      have HL359 := AM hl359
      have HL362 := AM hl362
      clear ht359 ht362 hl359 hl362
      have A17 := AM A170
      clear A170
      replace H := Option.bind_eq_some_iff.mp H
      obtain ⟨⟨t371, t372, t373, t376, t377⟩, A180, H⟩ := H
      replace H : ((keep_Worst.f kj3 t359 t362 t365 t368 t369).bind fun bt379 => (if bt379.2.2.2.2 = 0 then (if t376 = bt379.2.2.2.1 then ((keep_Check.f kj3 l0_0 l0_1 l0_2 a0_3 a0_4).bind fun t387 => ((keep_Check.f kj3 t359 t362 t365 t368 t369).bind fun t388 => (stipendlaw10_KeepOrder.j1 kj3 (t387 != t388) l0_0 l0_1 l0_2 a0_3 a0_4 t359 t362 t365 t368 t369 t371 t372 t373 t376))) else (stipendlaw10_KeepOrder.j1 kj3 true l0_0 l0_1 l0_2 a0_3 a0_4 t359 t362 t365 t368 t369 t371 t372 t373 t376)) else (stipendlaw10_KeepOrder.j1 kj3 true l0_0 l0_1 l0_2 a0_3 a0_4 t359 t362 t365 t368 t369 t371 t372 t373 t376))) = some r := H
      have A18 := AM A180
      clear A180
      replace H := Option.bind_eq_some_iff.mp H
      obtain ⟨⟨t379, t380, t381, t384, t385⟩, A190, H⟩ := H
      replace H : (if t385 = 0 then (if t376 = t384 then ((keep_Check.f kj3 l0_0 l0_1 l0_2 a0_3 a0_4).bind fun t387 => ((keep_Check.f kj3 t359 t362 t365 t368 t369).bind fun t388 => (stipendlaw10_KeepOrder.j1 kj3 (t387 != t388) l0_0 l0_1 l0_2 a0_3 a0_4 t359 t362 t365 t368 t369 t371 t372 t373 t376))) else (stipendlaw10_KeepOrder.j1 kj3 true l0_0 l0_1 l0_2 a0_3 a0_4 t359 t362 t365 t368 t369 t371 t372 t373 t376)) else (stipendlaw10_KeepOrder.j1 kj3 true l0_0 l0_1 l0_2 a0_3 a0_4 t359 t362 t365 t368 t369 t371 t372 t373 t376)) = some r := H
      have A19 := AM A190
      clear A190
      have HC20 := AM H
      clear H
      have hcz21_0 : wc.cell? ⟨gb355, 0, none⟩ = some (.slice A0_0 l0_0.length c0_0) := (bC BK355.out 0).trans rfl
      have hcz21_1 : wc.cell? ⟨gb355, 1, none⟩ = some (.slice A0_1 l0_1.length c0_1) := (bC BK355.out 1).trans rfl
      have hcz21_2 : wc.cell? ⟨gb355, 2, none⟩ = some (.slice A0_2 l0_2.length c0_2) := (bC BK355.out 2).trans rfl
      have hcz21_3 : wc.cell? ⟨gb355, 3, none⟩ = some (.int .i64 a0_3) := (bC BK355.out 3).trans rfl
      have hcz21_4 : wc.cell? ⟨gb355, 4, none⟩ = some (.int .i64 a0_4) := (bC BK355.out 4).trans rfl
      have hfz21_0 := bF BK355.out 0
      have hfz21_1 := bF BK355.out 1
      have hfz21_2 := bF BK355.out 2
      have hfz21_3 := bF BK355.out 3
      have hfz21_4 := bF BK355.out 4
      go_upto_region 6 with (first | ((with_reducible refine gC (f := 17) rfl ?_); refine gL (some 21) rfl rfl Try.func17 (by kernel_rfl) rfl #[.agg #[.slice A0_0 l0_0.length c0_0, .slice A0_1 l0_1.length c0_1, .slice A0_2 l0_2.length c0_2, .int .i64 a0_3, .int .i64 a0_4]] rfl (by (try simp only [List.map_toArray, List.map_cons, List.map_nil]); first | done | rfl | (simp only [List.length_drop, List.length_take]; rfl)) ?_; (with_reducible refine (table_Clone.calls kj3 _ _ l0_0 (fun k_ => k_ < w.heap.size) _ _ l0_1 _ _ l0_2 a0_3 a0_4 s359 s362 t365 t368 t369 _ ?side1 ?side2 ?side3 ?side4 ?side5 A17.out).mono ?_); (case side1 => repeat (first | exact (cB HR0_0.out HB.out) | (with_reducible refine cA ?_ _) | (with_reducible refine cD ?_ _) | (with_reducible refine c1_ ?_))); (case side2 => exact HC0_0.out); (case side3 => exact Kd.V_mk HC0_1.out (Kd.F_below (Kd.C_F k43_heap HR0_1.out) (by repeat (first | (with_reducible first | exact HB.out | apply bA | apply bD | apply b1 | refine bS ?_ GE355.out) | exact HB.out)))); (case side4 => repeat (first | exact (cB HR0_2.out HB.out) | (with_reducible refine cA ?_ _) | (with_reducible refine cD ?_ _) | (with_reducible refine c1_ ?_))); (case side5 => exact HC0_2.out); rintro e w22 ⟨v360, v363, v366, rfl, ho0, ho1, ho2, hb⟩; refine ⟨_, rfl, ?_⟩; have n0_ := AM (Kd.N_lower (Kd.N_mono (ok' := fun k_ => some k_ ≠ (v363 : Value).ownBlock ∧ some k_ ≠ (v366 : Value).ownBlock ∧ k_ ≠ gb355) ho0 (fun k_ hk_ => ⟨hk_.2.1, hk_.2.2, Or.elim hk_.1 (fun hs_ => fun e_ => Nat.not_le.2 hs_ (by rw [e_]; exact GW355.out)) (fun hn_ => (Kd.freshB (g := gb355) (o := .cells #[.slice A0_0 l0_0.length c0_0, .slice A0_1 l0_1.length c0_1, .slice A0_2 l0_2.length c0_2, .int .i64 a0_3, .int .i64 a0_4] 26 (0, 0)) (by (with_reducible repeat (first | refine kD ?_ _ | refine k1_ ?_ | refine kA ?_ _)); exact BK355.out) k_ hn_))⟩)) (bZ (by repeat (first | (with_reducible first | exact HB.out | apply bA | apply bD | apply b1 | refine bS ?_ GE355.out) | exact HB.out)))); have n1_ := AM (Kd.N_lower (Kd.N_mono (ok' := fun k_ => some k_ ≠ (v360 : Value).ownBlock ∧ some k_ ≠ (v366 : Value).ownBlock ∧ k_ ≠ gb355) ho1 (fun k_ hk_ => ⟨hk_.2.1, hk_.2.2, Or.elim hk_.1 (fun hs_ => fun e_ => Nat.not_le.2 hs_ (by rw [e_]; exact GW355.out)) (fun hn_ => (Kd.freshB (g := gb355) (o := .cells #[.slice A0_0 l0_0.length c0_0, .slice A0_1 l0_1.length c0_1, .slice A0_2 l0_2.length c0_2, .int .i64 a0_3, .int .i64 a0_4] 26 (0, 0)) (by (with_reducible repeat (first | refine kD ?_ _ | refine k1_ ?_ | refine kA ?_ _)); exact BK355.out) k_ hn_))⟩)) (bZ (by repeat (first | (with_reducible first | exact HB.out | apply bA | apply bD | apply b1 | refine bS ?_ GE355.out) | exact HB.out)))); have n2_ := AM (Kd.R_lower (Kd.R_mono (ok' := fun k_ => True) ho2 (fun _ hk_ => trivial)) (bZ (by repeat (first | (with_reducible first | exact HB.out | apply bA | apply bD | apply b1 | refine bS ?_ GE355.out) | exact HB.out)))); have n3_ := AM (kB (g := gb355) (o := .cells #[.slice A0_0 l0_0.length c0_0, .slice A0_1 l0_1.length c0_1, .slice A0_2 l0_2.length c0_2, .int .i64 a0_3, .int .i64 a0_4] 26 (0, 0)) (by (with_reducible repeat (first | refine kD ?_ _ | refine k1_ ?_ | refine kA ?_ _)); exact BK355.out) hb); have n4_ := AM (bT (by repeat (first | (with_reducible first | exact HB.out | apply bA | apply bD | apply b1 | refine bS ?_ GE355.out) | exact HB.out)) hb); clear BK355; clear HB; have HO361 := n0_; have HO364 := n1_; have HO367 := n2_; have BK355 := n3_; have HB := n4_; clear n0_ n1_ n2_ n3_ n4_; (try clear hb); (try clear hb2); (try clear hk); (try clear hi); (try clear ho0); (try clear ho1); (try clear ho2)) | ((with_reducible refine gD (N := 3) rfl ?_); refine bE ?hg (N := 3) ?hd (cs := #[.slice none 0 0, .slice none 0 0, .slice none 0 0, .int .i64 0, .int .i64 0]) (t := 26) ?hr ?_; (case hd => rfl); (case hg => rfl); (case hr => first | (go_simp; done) | (go_simp; rfl)); intro gb370 hg w23 hbox hb; have n0_ := AM (Kd.N_below (Kd.N_elderB (by (with_reducible repeat (first | apply nA | apply nD | apply n1x)); exact HO361.out) gb370 (Nat.le_of_eq hg.symm)) hb); have n1_ := AM (Kd.N_below (Kd.N_elderB (by (with_reducible repeat (first | apply nA | apply nD | apply n1x)); exact HO364.out) gb370 (Nat.le_of_eq hg.symm)) hb); have n2_ := AM (Kd.R_below (by (with_reducible repeat (first | apply rA | apply rD | apply r1x)); exact HO367.out) hb); have n3_ := AM (kB (g := gb355) (o := .cells #[.slice A0_0 l0_0.length c0_0, .slice A0_1 l0_1.length c0_1, .slice A0_2 l0_2.length c0_2, .int .i64 a0_3, .int .i64 a0_4] 26 (0, 0)) (by (with_reducible repeat (first | refine kD ?_ _ | refine k1_ ?_ | refine kA ?_ _)); exact BK355.out) hb); have n4_ := AM (bT (by repeat (first | (with_reducible first | exact HB.out | apply bA | apply bD | apply b1 | refine bS ?_ GE355.out) | exact HB.out)) hb); have n5_ := AM (hbox); have n6_ := AM ((by rw [hg]; exact (bZ (by repeat (first | (with_reducible first | exact HB.out | apply bA | apply bD | apply b1 | refine bS ?_ GE355.out) | exact HB.out))) : w.heap.size ≤ gb370)); have n7_ := AM ((by rw [hg]; exact (bZ (by repeat (first | (with_reducible first | exact HB.out | apply bA | apply bD | apply b1 | refine bS ?_ GE355.out) | exact HB.out))) : w.heap.size ≤ gb370)); have n8_ := AM ((by rw [hg]; exact Nat.ne_of_lt (blk_lt (g := gb355) (o := .cells #[.slice A0_0 l0_0.length c0_0, .slice A0_1 l0_1.length c0_1, .slice A0_2 l0_2.length c0_2, .int .i64 a0_3, .int .i64 a0_4] 26 (0, 0)) (by (with_reducible repeat (first | refine kD ?_ _ | refine k1_ ?_ | refine kA ?_ _)); exact BK355.out)) : gb355 ≠ gb370)); have n9_ := AM ((by rw [hg]; exact Nat.ne_of_gt (blk_lt (g := gb355) (o := .cells #[.slice A0_0 l0_0.length c0_0, .slice A0_1 l0_1.length c0_1, .slice A0_2 l0_2.length c0_2, .int .i64 a0_3, .int .i64 a0_4] 26 (0, 0)) (by (with_reducible repeat (first | refine kD ?_ _ | refine k1_ ?_ | refine kA ?_ _)); exact BK355.out)) : gb370 ≠ gb355)); clear HO361; clear HO364; clear HO367; clear BK355; clear HB; have HO361 := n0_; have HO364 := n1_; have HO367 := n2_; have BK355 := n3_; have HB := n4_; have BK370 := n5_; have GW370 := n6_; have GE370 := n7_; have NB355_370 := n8_; have NB370_355 := n9_; clear n0_ n1_ n2_ n3_ n4_ n5_ n6_ n7_ n8_ n9_; clear hb hbox hg; obtain ⟨Ao24, co24, eo24⟩ := Kd.N_slice HO361.out; subst eo24; have hnb25 := NB370_355.out; have hnc25 := NB355_370.out; have hcz26_0 : w23.cell? ⟨gb370, 0, none⟩ = some (.slice none 0 0) := (bC BK370.out 0).trans rfl; have hcz26_1 : w23.cell? ⟨gb370, 1, none⟩ = some (.slice none 0 0) := (bC BK370.out 1).trans rfl; have hcz26_2 : w23.cell? ⟨gb370, 2, none⟩ = some (.slice none 0 0) := (bC BK370.out 2).trans rfl; have hcz26_3 : w23.cell? ⟨gb370, 3, none⟩ = some (.int .i64 0) := (bC BK370.out 3).trans rfl; have hcz26_4 : w23.cell? ⟨gb370, 4, none⟩ = some (.int .i64 0) := (bC BK370.out 4).trans rfl; have hfz26_0 := bF BK370.out 0; have hfz26_1 := bF BK370.out 1; have hfz26_2 := bF BK370.out 2; have hfz26_3 := bF BK370.out 3; have hfz26_4 := bF BK370.out 4; obtain ⟨Ao27, co27, eo27⟩ := Kd.N_slice HO364.out; subst eo27; obtain ⟨Ao28, co28, eo28⟩ := Kd.R_slice HO367.out; subst eo28; have hcz29_0 : w23.cell? ⟨gb355, 0, none⟩ = some (.slice A0_0 l0_0.length c0_0) := (bC BK355.out 0).trans rfl; have hcz29_1 : w23.cell? ⟨gb355, 1, none⟩ = some (.slice A0_1 l0_1.length c0_1) := (bC BK355.out 1).trans rfl; have hcz29_2 : w23.cell? ⟨gb355, 2, none⟩ = some (.slice A0_2 l0_2.length c0_2) := (bC BK355.out 2).trans rfl; have hcz29_3 : w23.cell? ⟨gb355, 3, none⟩ = some (.int .i64 a0_3) := (bC BK355.out 3).trans rfl; have hcz29_4 : w23.cell? ⟨gb355, 4, none⟩ = some (.int .i64 a0_4) := (bC BK355.out 4).trans rfl; have hfz29_0 := bF BK355.out 0; have hfz29_1 := bF BK355.out 1; have hfz29_2 := bF BK355.out 2; have hfz29_3 := bF BK355.out 3; have hfz29_4 := bF BK355.out 4))
      refine Rev.fresh_wp ?_
      intro w24 hb
      have n0_ := AM (Kd.N_below (by (with_reducible repeat (first | apply nA | apply nD | apply n1x)); exact (Kd.N_mono (Kd.N_far (p := ⟨gb370, 4, none⟩) (Kd.N_far (p := ⟨gb370, 3, none⟩) (Kd.N_far (p := ⟨gb370, 2, none⟩) (Kd.N_far (p := ⟨gb370, 1, none⟩) (Kd.N_far (p := ⟨gb370, 0, none⟩) (Kd.N_mono HO361.out (fun k_ hk => (⟨hk, hk.2⟩ : _ ∧ k_ ≠ gb370))) (fun _ hk => hk.2) (.slice Ao24 s359.length co24)) (fun _ hk => hk.2) (.slice Ao27 s362.length co27)) (fun _ hk => hk.2) (.slice Ao28 t365.length co28)) (fun _ hk => hk.2) (.int .i64 t368)) (fun _ hk => hk.2) (.int .i64 t369)) (fun _ h_ => h_.1))) hb)
      have n1_ := AM (Kd.N_below (by (with_reducible repeat (first | apply nA | apply nD | apply n1x)); exact (Kd.N_mono (Kd.N_far (p := ⟨gb370, 4, none⟩) (Kd.N_far (p := ⟨gb370, 3, none⟩) (Kd.N_far (p := ⟨gb370, 2, none⟩) (Kd.N_far (p := ⟨gb370, 1, none⟩) (Kd.N_far (p := ⟨gb370, 0, none⟩) (Kd.N_mono HO364.out (fun k_ hk => (⟨hk, hk.2⟩ : _ ∧ k_ ≠ gb370))) (fun _ hk => hk.2) (.slice Ao24 s359.length co24)) (fun _ hk => hk.2) (.slice Ao27 s362.length co27)) (fun _ hk => hk.2) (.slice Ao28 t365.length co28)) (fun _ hk => hk.2) (.int .i64 t368)) (fun _ hk => hk.2) (.int .i64 t369)) (fun _ h_ => h_.1))) hb)
      have n2_ := AM (Kd.R_below (by (with_reducible repeat (first | apply rA | apply rD | apply r1x)); exact (Kd.R_mono (Kd.R_far (p := ⟨gb370, 4, none⟩) (Kd.R_far (p := ⟨gb370, 3, none⟩) (Kd.R_far (p := ⟨gb370, 2, none⟩) (Kd.R_far (p := ⟨gb370, 1, none⟩) (Kd.R_far (p := ⟨gb370, 0, none⟩) (Kd.R_types HO367.out BK370.out (by decide)) (fun _ hk => hk.2) (.slice Ao24 s359.length co24)) (fun _ hk => hk.2) (.slice Ao27 s362.length co27)) (fun _ hk => hk.2) (.slice Ao28 t365.length co28)) (fun _ hk => hk.2) (.int .i64 t368)) (fun _ hk => hk.2) (.int .i64 t369)) (fun _ h_ => h_.1))) hb)
      have n4_ := AM (kB (g := gb355) (o := .cells #[.slice A0_0 l0_0.length c0_0, .slice A0_1 l0_1.length c0_1, .slice A0_2 l0_2.length c0_2, .int .i64 a0_3, .int .i64 a0_4] 26 (0, 0)) (by (with_reducible repeat (first | refine kD ?_ _ | refine k1_ ?_ | refine kA ?_ _)); refine kF ?_ NB355_370.out _; (with_reducible repeat (first | refine kD ?_ _ | refine k1_ ?_ | refine kA ?_ _)); refine kF ?_ NB355_370.out _; (with_reducible repeat (first | refine kD ?_ _ | refine k1_ ?_ | refine kA ?_ _)); refine kF ?_ NB355_370.out _; (with_reducible repeat (first | refine kD ?_ _ | refine k1_ ?_ | refine kA ?_ _)); refine kF ?_ NB355_370.out _; (with_reducible repeat (first | refine kD ?_ _ | refine k1_ ?_ | refine kA ?_ _)); refine kF ?_ NB355_370.out _; (with_reducible repeat (first | refine kD ?_ _ | refine k1_ ?_ | refine kA ?_ _)); exact BK355.out) hb)
      have n5_ := AM (kB (g := gb370) (o := .cells #[.slice Ao24 s359.length co24, .slice Ao27 s362.length co27, .slice Ao28 t365.length co28, .int .i64 t368, .int .i64 t369] 26 (0, 0)) (by (with_reducible repeat (first | refine kD ?_ _ | refine k1_ ?_ | refine kA ?_ _)); refine kP (cs := #[.slice Ao24 s359.length co24, .slice Ao27 s362.length co27, .slice Ao28 t365.length co28, .int .i64 t368, .int .i64 0]) ?_ 4 _ rfl; (with_reducible repeat (first | refine kD ?_ _ | refine k1_ ?_ | refine kA ?_ _)); refine kP (cs := #[.slice Ao24 s359.length co24, .slice Ao27 s362.length co27, .slice Ao28 t365.length co28, .int .i64 0, .int .i64 0]) ?_ 3 _ rfl; (with_reducible repeat (first | refine kD ?_ _ | refine k1_ ?_ | refine kA ?_ _)); refine kP (cs := #[.slice Ao24 s359.length co24, .slice Ao27 s362.length co27, .slice none 0 0, .int .i64 0, .int .i64 0]) ?_ 2 _ rfl; (with_reducible repeat (first | refine kD ?_ _ | refine k1_ ?_ | refine kA ?_ _)); refine kP (cs := #[.slice Ao24 s359.length co24, .slice none 0 0, .slice none 0 0, .int .i64 0, .int .i64 0]) ?_ 1 _ rfl; (with_reducible repeat (first | refine kD ?_ _ | refine k1_ ?_ | refine kA ?_ _)); refine kP (cs := #[.slice none 0 0, .slice none 0 0, .slice none 0 0, .int .i64 0, .int .i64 0]) ?_ 0 _ rfl; (with_reducible repeat (first | refine kD ?_ _ | refine k1_ ?_ | refine kA ?_ _)); exact BK370.out) hb)
      have n6_ := AM (bT (by repeat (first | (with_reducible first | exact HB.out | apply bA | apply bD | apply b1 | refine bS ?_ GE355.out | refine bS ?_ GE370.out) | exact HB.out)) hb)
      clear HO361; clear HO364; clear HO367; clear BK355; clear BK370; clear HB
      have HO361 := n0_
      have HO364 := n1_
      have HO367 := n2_
      have BK355 := n4_
      have BK370 := n5_
      have HB := n6_
      clear n0_ n1_ n2_ n4_ n5_ n6_; clear hb
      (try rw [HL359.out] at HO361); (try rw [HL362.out] at HO361)
      (try rw [HL359.out] at HO364); (try rw [HL362.out] at HO364)
      (try rw [HL359.out] at BK370); (try rw [HL362.out] at BK370)
      (try rw [HL359.out]); (try rw [HL362.out])
      have hcr24_0 : w24.cell? ⟨gb370, 0, none⟩ = some (.slice Ao24 t359.length co24) := (bC BK370.out 0).trans rfl
      have hcr24_1 : w24.cell? ⟨gb370, 1, none⟩ = some (.slice Ao27 t362.length co27) := (bC BK370.out 1).trans rfl
      go_upto_region 7 with (first | (go_at_call 18; (with_reducible refine (Rev.rev18 HO364.out).mono ?_); rintro e w25 ⟨rfl, hn, hg⟩; have n0_ := AM (Kd.N_grown HO361.out hg (fun k_ hk => hk.1.1)); have n1_ := AM hn; have ha_ := Kd.R_apart' HO367.out (Kd.N_typed HO364.out) (by decide); have hb_ := Kd.R_grown ha_ hg (fun k_ hk => hk.2); have n2_ := AM (Kd.R_mono (ok' := fun _ => True) hb_ (fun _ _ => trivial)); have n3_ := AM ((hg.block gb355 (blk_lt BK355.out) (Kd.N_away (g := gb355) HO364.out (fun _ hk => hk.1.2.2))).trans BK355.out); have n4_ := AM ((hg.block gb370 (blk_lt BK370.out) (Kd.N_away (g := gb370) HO364.out (fun _ hk => hk.2))).trans BK370.out); have n5_ := AM (Below.grown HB.out hg (bZ HB.out) (fun k_ hk => Kd.N_base HO364.out k_ hk)); clear ha_ hb_; clear HO361; clear HO364; clear HO367; clear BK355; clear BK370; clear HB; have HO361 := n0_; have HO364 := n1_; have HO367 := n2_; have BK355 := n3_; have BK370 := n4_; have HB := n5_; clear n0_ n1_ n2_ n3_ n4_ n5_; clear hn hg))
      rw [← HT362.out] at HO364
      have hcr25_0 : w25.cell? ⟨gb370, 0, none⟩ = some (.slice Ao24 t359.length co24) := (bC BK370.out 0).trans rfl
      have hcr25_1 : w25.cell? ⟨gb370, 1, none⟩ = some (.slice Ao27 t362.length co27) := (bC BK370.out 1).trans rfl
      go_upto_region 8 with (first | (go_at_call 19; (with_reducible refine (Rev.rev19 HO361.out).mono ?_); rintro e w26 ⟨rfl, hn, hg⟩; have n0_ := AM (Kd.N_grown HO364.out hg (fun k_ hk => hk.1.1)); have n1_ := AM hn; have ha_ := Kd.R_apart' HO367.out (Kd.N_typed HO361.out) (by decide); have hb_ := Kd.R_grown ha_ hg (fun k_ hk => hk.2); have n2_ := AM (Kd.R_mono (ok' := fun _ => True) hb_ (fun _ _ => trivial)); have n3_ := AM ((hg.block gb355 (blk_lt BK355.out) (Kd.N_away (g := gb355) HO361.out (fun _ hk => hk.1.2.2))).trans BK355.out); have n4_ := AM ((hg.block gb370 (blk_lt BK370.out) (Kd.N_away (g := gb370) HO361.out (fun _ hk => hk.2))).trans BK370.out); have n5_ := AM (Below.grown HB.out hg (bZ HB.out) (fun k_ hk => Kd.N_base HO361.out k_ hk)); clear ha_ hb_; clear HO361; clear HO364; clear HO367; clear BK355; clear BK370; clear HB; have HO364 := n0_; have HO361 := n1_; have HO367 := n2_; have BK355 := n3_; have BK370 := n4_; have HB := n5_; clear n0_ n1_ n2_ n3_ n4_ n5_; clear hn hg))
      rw [← HT359.out] at HO361
      have hcr26_0 : w26.cell? ⟨gb355, 0, none⟩ = some (.slice A0_0 l0_0.length c0_0) := (bC BK355.out 0).trans rfl
      have hcr26_1 : w26.cell? ⟨gb355, 1, none⟩ = some (.slice A0_1 l0_1.length c0_1) := (bC BK355.out 1).trans rfl
      have hcr26_2 : w26.cell? ⟨gb355, 2, none⟩ = some (.slice A0_2 l0_2.length c0_2) := (bC BK355.out 2).trans rfl
      have hcr26_3 : w26.cell? ⟨gb355, 3, none⟩ = some (.int .i64 a0_3) := (bC BK355.out 3).trans rfl
      have hcr26_4 : w26.cell? ⟨gb355, 4, none⟩ = some (.int .i64 a0_4) := (bC BK355.out 4).trans rfl
      have hfr26_0 := bF BK355.out 0
      have hfr26_1 := bF BK355.out 1
      have hfr26_2 := bF BK355.out 2
      have hfr26_3 := bF BK355.out 3
      have hfr26_4 := bF BK355.out 4
      go_upto_region 10 with (first | ((with_reducible refine gC (f := 11) rfl ?_); refine gL (some 30) rfl rfl Try.func11 (by kernel_rfl) rfl #[.agg #[.slice A0_0 l0_0.length c0_0, .slice A0_1 l0_1.length c0_1, .slice A0_2 l0_2.length c0_2, .int .i64 a0_3, .int .i64 a0_4]] rfl (by (try simp only [List.map_toArray, List.map_cons, List.map_nil]); first | done | rfl | (simp only [List.length_drop, List.length_take]; rfl)) ?_; (with_reducible refine (keep_Worst.calls kj3 _ _ l0_0 _ _ l0_1 _ _ l0_2 a0_3 a0_4 t371 t372 t373 t376 t377 _ ?side1 ?side2 ?side3 ?side4 ?side5 ?side6 A18.out).mono ?_); (case side1 => exact cB HR0_0.out (by repeat (first | (with_reducible first | exact HB.out | apply bA | apply bD | apply b1 | refine bS ?_ GE355.out | refine bS ?_ GE370.out) | exact HB.out))); (case side2 => exact HC0_0.out); (case side3 => exact cB HR0_1.out (by repeat (first | (with_reducible first | exact HB.out | apply bA | apply bD | apply b1 | refine bS ?_ GE355.out | refine bS ?_ GE370.out) | exact HB.out))); (case side4 => exact HC0_1.out); (case side5 => exact cB HR0_2.out (by repeat (first | (with_reducible first | exact HB.out | apply bA | apply bD | apply b1 | refine bS ?_ GE355.out | refine bS ?_ GE370.out) | exact HB.out))); (case side6 => exact HC0_2.out); rintro e w30 ⟨v374, rfl, ho0, hb⟩; refine ⟨_, rfl, ?_⟩; have n0_ := AM (Kd.N_elder' (by (with_reducible repeat (first | apply nA | apply nD | apply n1x)); exact HO361.out) (Kd.R_base ho0) hb); have n1_ := AM (Kd.N_elder' (by (with_reducible repeat (first | apply nA | apply nD | apply n1x)); exact HO364.out) (Kd.R_base ho0) hb); have n2_ := AM (Kd.R_below (by (with_reducible repeat (first | apply rA | apply rD | apply r1x)); exact HO367.out) hb); have n3_ := AM (Kd.R_lower ho0 (bZ (by repeat (first | (with_reducible first | exact HB.out | apply bA | apply bD | apply b1 | refine bS ?_ GE355.out | refine bS ?_ GE370.out) | exact HB.out)))); have n4_ := AM (kB (g := gb355) (o := .cells #[.slice A0_0 l0_0.length c0_0, .slice A0_1 l0_1.length c0_1, .slice A0_2 l0_2.length c0_2, .int .i64 a0_3, .int .i64 a0_4] 26 (0, 0)) (by (with_reducible repeat (first | refine kD ?_ _ | refine k1_ ?_ | refine kA ?_ _)); exact BK355.out) hb); have n5_ := AM (kB (g := gb370) (o := .cells #[.slice Ao24 t359.length co24, .slice Ao27 t362.length co27, .slice Ao28 t365.length co28, .int .i64 t368, .int .i64 t369] 26 (0, 0)) (by (with_reducible repeat (first | refine kD ?_ _ | refine k1_ ?_ | refine kA ?_ _)); exact BK370.out) hb); have n6_ := AM (bT (by repeat (first | (with_reducible first | exact HB.out | apply bA | apply bD | apply b1 | refine bS ?_ GE355.out | refine bS ?_ GE370.out) | exact HB.out)) hb); clear HO361; clear HO364; clear HO367; clear BK355; clear BK370; clear HB; have HO361 := n0_; have HO364 := n1_; have HO367 := n2_; have HO375 := n3_; have BK355 := n4_; have BK370 := n5_; have HB := n6_; clear n0_ n1_ n2_ n3_ n4_ n5_ n6_; (try clear hb); (try clear hb2); (try clear hk); (try clear hi); (try clear ho0)) | ((with_reducible refine gD (N := 4) rfl ?_); refine bE ?hg (N := 4) ?hd (cs := #[.int .i64 0, .int .i64 0, .slice none 0 0, .int .i64 0]) (t := 33) ?hr ?_; (case hd => rfl); (case hg => rfl); (case hr => first | (go_simp; done) | (go_simp; rfl)); intro gb378 hg w31 hbox hb; have n0_ := AM (Kd.N_below (Kd.N_elderB (by (with_reducible repeat (first | apply nA | apply nD | apply n1x)); exact HO361.out) gb378 (Nat.le_of_eq hg.symm)) hb); have n1_ := AM (Kd.N_below (Kd.N_elderB (by (with_reducible repeat (first | apply nA | apply nD | apply n1x)); exact HO364.out) gb378 (Nat.le_of_eq hg.symm)) hb); have n2_ := AM (Kd.R_below (by (with_reducible repeat (first | apply rA | apply rD | apply r1x)); exact HO367.out) hb); have n3_ := AM (Kd.R_below (by (with_reducible repeat (first | apply rA | apply rD | apply r1x)); exact HO375.out) hb); have n4_ := AM (kB (g := gb355) (o := .cells #[.slice A0_0 l0_0.length c0_0, .slice A0_1 l0_1.length c0_1, .slice A0_2 l0_2.length c0_2, .int .i64 a0_3, .int .i64 a0_4] 26 (0, 0)) (by (with_reducible repeat (first | refine kD ?_ _ | refine k1_ ?_ | refine kA ?_ _)); exact BK355.out) hb); have n5_ := AM (kB (g := gb370) (o := .cells #[.slice Ao24 t359.length co24, .slice Ao27 t362.length co27, .slice Ao28 t365.length co28, .int .i64 t368, .int .i64 t369] 26 (0, 0)) (by (with_reducible repeat (first | refine kD ?_ _ | refine k1_ ?_ | refine kA ?_ _)); exact BK370.out) hb); have n6_ := AM (bT (by repeat (first | (with_reducible first | exact HB.out | apply bA | apply bD | apply b1 | refine bS ?_ GE355.out | refine bS ?_ GE370.out) | exact HB.out)) hb); have n7_ := AM (hbox); have n8_ := AM ((by rw [hg]; exact (bZ (by repeat (first | (with_reducible first | exact HB.out | apply bA | apply bD | apply b1 | refine bS ?_ GE355.out | refine bS ?_ GE370.out) | exact HB.out))) : w.heap.size ≤ gb378)); have n9_ := AM ((by rw [hg]; exact (bZ (by repeat (first | (with_reducible first | exact HB.out | apply bA | apply bD | apply b1 | refine bS ?_ GE355.out | refine bS ?_ GE370.out) | exact HB.out))) : w.heap.size ≤ gb378)); have n10_ := AM ((by rw [hg]; exact Nat.ne_of_lt (blk_lt (g := gb355) (o := .cells #[.slice A0_0 l0_0.length c0_0, .slice A0_1 l0_1.length c0_1, .slice A0_2 l0_2.length c0_2, .int .i64 a0_3, .int .i64 a0_4] 26 (0, 0)) (by (with_reducible repeat (first | refine kD ?_ _ | refine k1_ ?_ | refine kA ?_ _)); exact BK355.out)) : gb355 ≠ gb378)); have n11_ := AM ((by rw [hg]; exact Nat.ne_of_gt (blk_lt (g := gb355) (o := .cells #[.slice A0_0 l0_0.length c0_0, .slice A0_1 l0_1.length c0_1, .slice A0_2 l0_2.length c0_2, .int .i64 a0_3, .int .i64 a0_4] 26 (0, 0)) (by (with_reducible repeat (first | refine kD ?_ _ | refine k1_ ?_ | refine kA ?_ _)); exact BK355.out)) : gb378 ≠ gb355)); have n12_ := AM ((by rw [hg]; exact Nat.ne_of_lt (blk_lt (g := gb370) (o := .cells #[.slice Ao24 t359.length co24, .slice Ao27 t362.length co27, .slice Ao28 t365.length co28, .int .i64 t368, .int .i64 t369] 26 (0, 0)) (by (with_reducible repeat (first | refine kD ?_ _ | refine k1_ ?_ | refine kA ?_ _)); exact BK370.out)) : gb370 ≠ gb378)); have n13_ := AM ((by rw [hg]; exact Nat.ne_of_gt (blk_lt (g := gb370) (o := .cells #[.slice Ao24 t359.length co24, .slice Ao27 t362.length co27, .slice Ao28 t365.length co28, .int .i64 t368, .int .i64 t369] 26 (0, 0)) (by (with_reducible repeat (first | refine kD ?_ _ | refine k1_ ?_ | refine kA ?_ _)); exact BK370.out)) : gb378 ≠ gb370)); clear HO361; clear HO364; clear HO367; clear HO375; clear BK355; clear BK370; clear HB; have HO361 := n0_; have HO364 := n1_; have HO367 := n2_; have HO375 := n3_; have BK355 := n4_; have BK370 := n5_; have HB := n6_; have BK378 := n7_; have GW378 := n8_; have GE378 := n9_; have NB355_378 := n10_; have NB378_355 := n11_; have NB370_378 := n12_; have NB378_370 := n13_; clear n0_ n1_ n2_ n3_ n4_ n5_ n6_ n7_ n8_ n9_ n10_ n11_ n12_ n13_; clear hb hbox hg; have hnb32 := NB378_355.out; have hnc32 := NB355_378.out; have hnb33 := NB378_370.out; have hnc33 := NB370_378.out; have hcz34_0 : w31.cell? ⟨gb378, 0, none⟩ = some (.int .i64 0) := (bC BK378.out 0).trans rfl; have hcz34_1 : w31.cell? ⟨gb378, 1, none⟩ = some (.int .i64 0) := (bC BK378.out 1).trans rfl; have hcz34_2 : w31.cell? ⟨gb378, 2, none⟩ = some (.slice none 0 0) := (bC BK378.out 2).trans rfl; have hcz34_3 : w31.cell? ⟨gb378, 3, none⟩ = some (.int .i64 0) := (bC BK378.out 3).trans rfl; have hfz34_0 := bF BK378.out 0; have hfz34_1 := bF BK378.out 1; have hfz34_2 := bF BK378.out 2; have hfz34_3 := bF BK378.out 3; obtain ⟨Ao35, co35, eo35⟩ := Kd.R_slice HO375.out; subst eo35; have hcz36_0 : w31.cell? ⟨gb370, 0, none⟩ = some (.slice Ao24 t359.length co24) := (bC BK370.out 0).trans rfl; have hcz36_1 : w31.cell? ⟨gb370, 1, none⟩ = some (.slice Ao27 t362.length co27) := (bC BK370.out 1).trans rfl; have hcz36_2 : w31.cell? ⟨gb370, 2, none⟩ = some (.slice Ao28 t365.length co28) := (bC BK370.out 2).trans rfl; have hcz36_3 : w31.cell? ⟨gb370, 3, none⟩ = some (.int .i64 t368) := (bC BK370.out 3).trans rfl; have hcz36_4 : w31.cell? ⟨gb370, 4, none⟩ = some (.int .i64 t369) := (bC BK370.out 4).trans rfl; have hfz36_0 := bF BK370.out 0; have hfz36_1 := bF BK370.out 1; have hfz36_2 := bF BK370.out 2; have hfz36_3 := bF BK370.out 3; have hfz36_4 := bF BK370.out 4) | ((with_reducible refine gC (f := 11) rfl ?_); refine gL (some 35) rfl rfl Try.func11 (by kernel_rfl) rfl #[.agg #[.slice Ao24 t359.length co24, .slice Ao27 t362.length co27, .slice Ao28 t365.length co28, .int .i64 t368, .int .i64 t369]] rfl (by (try simp only [List.map_toArray, List.map_cons, List.map_nil]); first | done | rfl | (simp only [List.length_drop, List.length_take]; rfl)) ?_; (with_reducible refine (keep_Worst.calls kj3 _ _ t359 _ _ t362 _ _ t365 t368 t369 t379 t380 t381 t384 t385 _ ?side1 ?side2 ?side3 ?side4 ?side5 ?side6 A19.out).mono ?_); (case side1 => refine (Kd.N_reads' (e := 39) (base := w.heap.size) (ok := fun k_ => ((((some k_ ≠ (.slice Ao27 t362.length co27 : Value).ownBlock ∧ (some k_ ≠ (.slice Ao28 t365.length co28 : Value).ownBlock ∧ k_ ≠ gb355)) ∧ k_ ≠ gb370) ∧ some k_ ≠ (.slice Ao35 t373.length co35 : Value).ownBlock) ∧ k_ ≠ gb378)) (n := t359.length) (c := co24) ?_).2.2; exact (by (with_reducible repeat (first | apply nA | apply nD | apply n1x)); exact (Kd.N_mono (Kd.N_far (p := ⟨gb378, 3, none⟩) (Kd.N_far (p := ⟨gb378, 2, none⟩) (Kd.N_far (p := ⟨gb378, 1, none⟩) (Kd.N_far (p := ⟨gb378, 0, none⟩) (Kd.N_mono HO361.out (fun k_ hk => (⟨hk, hk.2⟩ : _ ∧ k_ ≠ gb378))) (fun _ hk => hk.2) (.int .i64 t371)) (fun _ hk => hk.2) (.int .i64 t372)) (fun _ hk => hk.2) (.slice Ao35 t373.length co35)) (fun _ hk => hk.2) (.int .i64 t376)) (fun _ h_ => h_.1)))); (case side2 => exact (Kd.N_reads' HO361.out).2.1); (case side3 => refine (Kd.N_reads' (e := 43) (base := w.heap.size) (ok := fun k_ => ((((some k_ ≠ (.slice Ao24 t359.length co24 : Value).ownBlock ∧ (some k_ ≠ (.slice Ao28 t365.length co28 : Value).ownBlock ∧ k_ ≠ gb355)) ∧ k_ ≠ gb370) ∧ some k_ ≠ (.slice Ao35 t373.length co35 : Value).ownBlock) ∧ k_ ≠ gb378)) (n := t362.length) (c := co27) ?_).2.2; exact (by (with_reducible repeat (first | apply nA | apply nD | apply n1x)); exact (Kd.N_mono (Kd.N_far (p := ⟨gb378, 3, none⟩) (Kd.N_far (p := ⟨gb378, 2, none⟩) (Kd.N_far (p := ⟨gb378, 1, none⟩) (Kd.N_far (p := ⟨gb378, 0, none⟩) (Kd.N_mono HO364.out (fun k_ hk => (⟨hk, hk.2⟩ : _ ∧ k_ ≠ gb378))) (fun _ hk => hk.2) (.int .i64 t371)) (fun _ hk => hk.2) (.int .i64 t372)) (fun _ hk => hk.2) (.slice Ao35 t373.length co35)) (fun _ hk => hk.2) (.int .i64 t376)) (fun _ h_ => h_.1)))); (case side4 => exact (Kd.N_reads' HO364.out).2.1); (case side5 => refine (Kd.R_reads' (e := 58) (base := w.heap.size) (ok := fun k_ => True) (n := t365.length) (c := co28) ?_).2.2; exact (by (with_reducible repeat (first | apply rA | apply rD | apply r1x)); exact (Kd.R_mono (Kd.R_far (p := ⟨gb378, 3, none⟩) (Kd.R_far (p := ⟨gb378, 2, none⟩) (Kd.R_far (p := ⟨gb378, 1, none⟩) (Kd.R_far (p := ⟨gb378, 0, none⟩) (Kd.R_types HO367.out BK378.out (by decide)) (fun _ hk => hk.2) (.int .i64 t371)) (fun _ hk => hk.2) (.int .i64 t372)) (fun _ hk => hk.2) (.slice Ao35 t373.length co35)) (fun _ hk => hk.2) (.int .i64 t376)) (fun _ h_ => h_.1)))); (case side6 => exact (Kd.R_reads' HO367.out).2.1); rintro e w37 ⟨v382, rfl, ho0, hb⟩; refine ⟨_, rfl, ?_⟩; have n0_ := AM (Kd.N_elder' (by (with_reducible repeat (first | apply nA | apply nD | apply n1x)); exact (Kd.N_mono (Kd.N_far (p := ⟨gb378, 3, none⟩) (Kd.N_far (p := ⟨gb378, 2, none⟩) (Kd.N_far (p := ⟨gb378, 1, none⟩) (Kd.N_far (p := ⟨gb378, 0, none⟩) (Kd.N_mono HO361.out (fun k_ hk => (⟨hk, hk.2⟩ : _ ∧ k_ ≠ gb378))) (fun _ hk => hk.2) (.int .i64 t371)) (fun _ hk => hk.2) (.int .i64 t372)) (fun _ hk => hk.2) (.slice Ao35 t373.length co35)) (fun _ hk => hk.2) (.int .i64 t376)) (fun _ h_ => h_.1))) (Kd.R_base ho0) hb); have n1_ := AM (Kd.N_elder' (by (with_reducible repeat (first | apply nA | apply nD | apply n1x)); exact (Kd.N_mono (Kd.N_far (p := ⟨gb378, 3, none⟩) (Kd.N_far (p := ⟨gb378, 2, none⟩) (Kd.N_far (p := ⟨gb378, 1, none⟩) (Kd.N_far (p := ⟨gb378, 0, none⟩) (Kd.N_mono HO364.out (fun k_ hk => (⟨hk, hk.2⟩ : _ ∧ k_ ≠ gb378))) (fun _ hk => hk.2) (.int .i64 t371)) (fun _ hk => hk.2) (.int .i64 t372)) (fun _ hk => hk.2) (.slice Ao35 t373.length co35)) (fun _ hk => hk.2) (.int .i64 t376)) (fun _ h_ => h_.1))) (Kd.R_base ho0) hb); have n2_ := AM (Kd.R_below (by (with_reducible repeat (first | apply rA | apply rD | apply r1x)); exact (Kd.R_mono (Kd.R_far (p := ⟨gb378, 3, none⟩) (Kd.R_far (p := ⟨gb378, 2, none⟩) (Kd.R_far (p := ⟨gb378, 1, none⟩) (Kd.R_far (p := ⟨gb378, 0, none⟩) (Kd.R_types HO367.out BK378.out (by decide)) (fun _ hk => hk.2) (.int .i64 t371)) (fun _ hk => hk.2) (.int .i64 t372)) (fun _ hk => hk.2) (.slice Ao35 t373.length co35)) (fun _ hk => hk.2) (.int .i64 t376)) (fun _ h_ => h_.1))) hb); have n3_ := AM (Kd.R_elder' (by (with_reducible repeat (first | apply rA | apply rD | apply r1x)); exact (Kd.R_mono (Kd.R_far (p := ⟨gb378, 3, none⟩) (Kd.R_far (p := ⟨gb378, 2, none⟩) (Kd.R_far (p := ⟨gb378, 1, none⟩) (Kd.R_far (p := ⟨gb378, 0, none⟩) (Kd.R_types HO375.out BK378.out (by decide)) (fun _ hk => hk.2) (.int .i64 t371)) (fun _ hk => hk.2) (.int .i64 t372)) (fun _ hk => hk.2) (.slice Ao35 t373.length co35)) (fun _ hk => hk.2) (.int .i64 t376)) (fun _ h_ => h_.1))) (Kd.R_base ho0) hb); have n4_ := AM (Kd.R_lower (Kd.R_new' ho0 (Kd.R_lt (by (with_reducible repeat (first | apply rA | apply rD | apply r1x)); exact (Kd.R_mono (Kd.R_far (p := ⟨gb378, 3, none⟩) (Kd.R_far (p := ⟨gb378, 2, none⟩) (Kd.R_far (p := ⟨gb378, 1, none⟩) (Kd.R_far (p := ⟨gb378, 0, none⟩) (Kd.R_types HO375.out BK378.out (by decide)) (fun _ hk => hk.2) (.int .i64 t371)) (fun _ hk => hk.2) (.int .i64 t372)) (fun _ hk => hk.2) (.slice Ao35 t373.length co35)) (fun _ hk => hk.2) (.int .i64 t376)) (fun _ h_ => h_.1))))) (bZ (by repeat (first | (with_reducible first | exact HB.out | apply bA | apply bD | apply b1 | refine bS ?_ GE355.out | refine bS ?_ GE370.out | refine bS ?_ GE378.out) | exact HB.out)))); have n5_ := AM (kB (g := gb355) (o := .cells #[.slice A0_0 l0_0.length c0_0, .slice A0_1 l0_1.length c0_1, .slice A0_2 l0_2.length c0_2, .int .i64 a0_3, .int .i64 a0_4] 26 (0, 0)) (by (with_reducible repeat (first | refine kD ?_ _ | refine k1_ ?_ | refine kA ?_ _)); refine kF ?_ NB355_378.out _; (with_reducible repeat (first | refine kD ?_ _ | refine k1_ ?_ | refine kA ?_ _)); refine kF ?_ NB355_378.out _; (with_reducible repeat (first | refine kD ?_ _ | refine k1_ ?_ | refine kA ?_ _)); refine kF ?_ NB355_378.out _; (with_reducible repeat (first | refine kD ?_ _ | refine k1_ ?_ | refine kA ?_ _)); refine kF ?_ NB355_378.out _; (with_reducible repeat (first | refine kD ?_ _ | refine k1_ ?_ | refine kA ?_ _)); exact BK355.out) hb); have n6_ := AM (kB (g := gb370) (o := .cells #[.slice Ao24 t359.length co24, .slice Ao27 t362.length co27, .slice Ao28 t365.length co28, .int .i64 t368, .int .i64 t369] 26 (0, 0)) (by (with_reducible repeat (first | refine kD ?_ _ | refine k1_ ?_ | refine kA ?_ _)); refine kF ?_ NB370_378.out _; (with_reducible repeat (first | refine kD ?_ _ | refine k1_ ?_ | refine kA ?_ _)); refine kF ?_ NB370_378.out _; (with_reducible repeat (first | refine kD ?_ _ | refine k1_ ?_ | refine kA ?_ _)); refine kF ?_ NB370_378.out _; (with_reducible repeat (first | refine kD ?_ _ | refine k1_ ?_ | refine kA ?_ _)); refine kF ?_ NB370_378.out _; (with_reducible repeat (first | refine kD ?_ _ | refine k1_ ?_ | refine kA ?_ _)); exact BK370.out) hb); have n7_ := AM (kB (g := gb378) (o := .cells #[.int .i64 t371, .int .i64 t372, .slice Ao35 t373.length co35, .int .i64 t376] 33 (0, 0)) (by (with_reducible repeat (first | refine kD ?_ _ | refine k1_ ?_ | refine kA ?_ _)); refine kP (cs := #[.int .i64 t371, .int .i64 t372, .slice Ao35 t373.length co35, .int .i64 0]) ?_ 3 _ rfl; (with_reducible repeat (first | refine kD ?_ _ | refine k1_ ?_ | refine kA ?_ _)); refine kP (cs := #[.int .i64 t371, .int .i64 t372, .slice none 0 0, .int .i64 0]) ?_ 2 _ rfl; (with_reducible repeat (first | refine kD ?_ _ | refine k1_ ?_ | refine kA ?_ _)); refine kP (cs := #[.int .i64 t371, .int .i64 0, .slice none 0 0, .int .i64 0]) ?_ 1 _ rfl; (with_reducible repeat (first | refine kD ?_ _ | refine k1_ ?_ | refine kA ?_ _)); refine kP (cs := #[.int .i64 0, .int .i64 0, .slice none 0 0, .int .i64 0]) ?_ 0 _ rfl; (with_reducible repeat (first | refine kD ?_ _ | refine k1_ ?_ | refine kA ?_ _)); exact BK378.out) hb); have n8_ := AM (bT (by repeat (first | (with_reducible first | exact HB.out | apply bA | apply bD | apply b1 | refine bS ?_ GE355.out | refine bS ?_ GE370.out | refine bS ?_ GE378.out) | exact HB.out)) hb); clear HO361; clear HO364; clear HO367; clear HO375; clear BK355; clear BK370; clear BK378; clear HB; have HO361 := n0_; have HO364 := n1_; have HO367 := n2_; have HO375 := n3_; have HO383 := n4_; have BK355 := n5_; have BK370 := n6_; have BK378 := n7_; have HB := n8_; clear n0_ n1_ n2_ n3_ n4_ n5_ n6_ n7_ n8_; (try clear hb); (try clear hb2); (try clear hk); (try clear hi); (try clear ho0)) | ((with_reducible refine gD (N := 6) rfl ?_); refine bE ?hg (N := 6) ?hd (cs := #[.int .i64 0, .int .i64 0, .slice none 0 0, .int .i64 0]) (t := 33) ?hr ?_; (case hd => rfl); (case hg => rfl); (case hr => first | (go_simp; done) | (go_simp; rfl)); intro gb386 hg w38 hbox hb; have n0_ := AM (Kd.N_below (Kd.N_elderB (by (with_reducible repeat (first | apply nA | apply nD | apply n1x)); exact HO361.out) gb386 (Nat.le_of_eq hg.symm)) hb); have n1_ := AM (Kd.N_below (Kd.N_elderB (by (with_reducible repeat (first | apply nA | apply nD | apply n1x)); exact HO364.out) gb386 (Nat.le_of_eq hg.symm)) hb); have n2_ := AM (Kd.R_below (by (with_reducible repeat (first | apply rA | apply rD | apply r1x)); exact HO367.out) hb); have n3_ := AM (Kd.R_below (by (with_reducible repeat (first | apply rA | apply rD | apply r1x)); exact HO375.out) hb); have n4_ := AM (Kd.R_below (by (with_reducible repeat (first | apply rA | apply rD | apply r1x)); exact HO383.out) hb); have n5_ := AM (kB (g := gb355) (o := .cells #[.slice A0_0 l0_0.length c0_0, .slice A0_1 l0_1.length c0_1, .slice A0_2 l0_2.length c0_2, .int .i64 a0_3, .int .i64 a0_4] 26 (0, 0)) (by (with_reducible repeat (first | refine kD ?_ _ | refine k1_ ?_ | refine kA ?_ _)); exact BK355.out) hb); have n6_ := AM (kB (g := gb370) (o := .cells #[.slice Ao24 t359.length co24, .slice Ao27 t362.length co27, .slice Ao28 t365.length co28, .int .i64 t368, .int .i64 t369] 26 (0, 0)) (by (with_reducible repeat (first | refine kD ?_ _ | refine k1_ ?_ | refine kA ?_ _)); exact BK370.out) hb); have n7_ := AM (kB (g := gb378) (o := .cells #[.int .i64 t371, .int .i64 t372, .slice Ao35 t373.length co35, .int .i64 t376] 33 (0, 0)) (by (with_reducible repeat (first | refine kD ?_ _ | refine k1_ ?_ | refine kA ?_ _)); exact BK378.out) hb); have n8_ := AM (bT (by repeat (first | (with_reducible first | exact HB.out | apply bA | apply bD | apply b1 | refine bS ?_ GE355.out | refine bS ?_ GE370.out | refine bS ?_ GE378.out) | exact HB.out)) hb); have n9_ := AM (hbox); have n10_ := AM ((by rw [hg]; exact (bZ (by repeat (first | (with_reducible first | exact HB.out | apply bA | apply bD | apply b1 | refine bS ?_ GE355.out | refine bS ?_ GE370.out | refine bS ?_ GE378.out) | exact HB.out))) : w.heap.size ≤ gb386)); have n11_ := AM ((by rw [hg]; exact (bZ (by repeat (first | (with_reducible first | exact HB.out | apply bA | apply bD | apply b1 | refine bS ?_ GE355.out | refine bS ?_ GE370.out | refine bS ?_ GE378.out) | exact HB.out))) : w.heap.size ≤ gb386)); have n12_ := AM ((by rw [hg]; exact Nat.ne_of_lt (blk_lt (g := gb355) (o := .cells #[.slice A0_0 l0_0.length c0_0, .slice A0_1 l0_1.length c0_1, .slice A0_2 l0_2.length c0_2, .int .i64 a0_3, .int .i64 a0_4] 26 (0, 0)) (by (with_reducible repeat (first | refine kD ?_ _ | refine k1_ ?_ | refine kA ?_ _)); exact BK355.out)) : gb355 ≠ gb386)); have n13_ := AM ((by rw [hg]; exact Nat.ne_of_gt (blk_lt (g := gb355) (o := .cells #[.slice A0_0 l0_0.length c0_0, .slice A0_1 l0_1.length c0_1, .slice A0_2 l0_2.length c0_2, .int .i64 a0_3, .int .i64 a0_4] 26 (0, 0)) (by (with_reducible repeat (first | refine kD ?_ _ | refine k1_ ?_ | refine kA ?_ _)); exact BK355.out)) : gb386 ≠ gb355)); have n14_ := AM ((by rw [hg]; exact Nat.ne_of_lt (blk_lt (g := gb370) (o := .cells #[.slice Ao24 t359.length co24, .slice Ao27 t362.length co27, .slice Ao28 t365.length co28, .int .i64 t368, .int .i64 t369] 26 (0, 0)) (by (with_reducible repeat (first | refine kD ?_ _ | refine k1_ ?_ | refine kA ?_ _)); exact BK370.out)) : gb370 ≠ gb386)); have n15_ := AM ((by rw [hg]; exact Nat.ne_of_gt (blk_lt (g := gb370) (o := .cells #[.slice Ao24 t359.length co24, .slice Ao27 t362.length co27, .slice Ao28 t365.length co28, .int .i64 t368, .int .i64 t369] 26 (0, 0)) (by (with_reducible repeat (first | refine kD ?_ _ | refine k1_ ?_ | refine kA ?_ _)); exact BK370.out)) : gb386 ≠ gb370)); have n16_ := AM ((by rw [hg]; exact Nat.ne_of_lt (blk_lt (g := gb378) (o := .cells #[.int .i64 t371, .int .i64 t372, .slice Ao35 t373.length co35, .int .i64 t376] 33 (0, 0)) (by (with_reducible repeat (first | refine kD ?_ _ | refine k1_ ?_ | refine kA ?_ _)); exact BK378.out)) : gb378 ≠ gb386)); have n17_ := AM ((by rw [hg]; exact Nat.ne_of_gt (blk_lt (g := gb378) (o := .cells #[.int .i64 t371, .int .i64 t372, .slice Ao35 t373.length co35, .int .i64 t376] 33 (0, 0)) (by (with_reducible repeat (first | refine kD ?_ _ | refine k1_ ?_ | refine kA ?_ _)); exact BK378.out)) : gb386 ≠ gb378)); clear HO361; clear HO364; clear HO367; clear HO375; clear HO383; clear BK355; clear BK370; clear BK378; clear HB; have HO361 := n0_; have HO364 := n1_; have HO367 := n2_; have HO375 := n3_; have HO383 := n4_; have BK355 := n5_; have BK370 := n6_; have BK378 := n7_; have HB := n8_; have BK386 := n9_; have GW386 := n10_; have GE386 := n11_; have NB355_386 := n12_; have NB386_355 := n13_; have NB370_386 := n14_; have NB386_370 := n15_; have NB378_386 := n16_; have NB386_378 := n17_; clear n0_ n1_ n2_ n3_ n4_ n5_ n6_ n7_ n8_ n9_ n10_ n11_ n12_ n13_ n14_ n15_ n16_ n17_; clear hb hbox hg; have hnb39 := NB386_355.out; have hnc39 := NB355_386.out; have hnb40 := NB386_370.out; have hnc40 := NB370_386.out; have hnb41 := NB386_378.out; have hnc41 := NB378_386.out; have hcz42_0 : w38.cell? ⟨gb386, 0, none⟩ = some (.int .i64 0) := (bC BK386.out 0).trans rfl; have hcz42_1 : w38.cell? ⟨gb386, 1, none⟩ = some (.int .i64 0) := (bC BK386.out 1).trans rfl; have hcz42_2 : w38.cell? ⟨gb386, 2, none⟩ = some (.slice none 0 0) := (bC BK386.out 2).trans rfl; have hcz42_3 : w38.cell? ⟨gb386, 3, none⟩ = some (.int .i64 0) := (bC BK386.out 3).trans rfl; have hfz42_0 := bF BK386.out 0; have hfz42_1 := bF BK386.out 1; have hfz42_2 := bF BK386.out 2; have hfz42_3 := bF BK386.out 3; obtain ⟨Ao43, co43, eo43⟩ := Kd.R_slice HO383.out; subst eo43))
      (try simp only [Act.put, List.setIfInBounds_toArray, List.set_cons_zero, List.set_cons_succ])
      go_cut [53] (fun v53 wc => ∃ (kq : Nat) (x53_19 : Bool), v53 = .bool x53_19 ∧ Aside0 (stipendlaw10_KeepOrder.j1 kq x53_19 l0_0 l0_1 l0_2 a0_3 a0_4 t359 t362 t365 t368 t369 t371 t372 t373 t376 = some r) ∧ Aside0 (kq ≤ kj3) ∧ Aside0 (Kd.N (Kd.slice 41 k41) 39 wc w.heap.size (fun k_ => some k_ ≠ ((.slice Ao27 t362.length co27) : Value).ownBlock ∧ some k_ ≠ ((.slice Ao28 t365.length co28) : Value).ownBlock ∧ some k_ ≠ ((.slice Ao35 t373.length co35) : Value).ownBlock ∧ some k_ ≠ ((.slice Ao43 t381.length co43) : Value).ownBlock ∧ k_ ≠ gb355 ∧ k_ ≠ gb370 ∧ k_ ≠ gb378 ∧ k_ ≠ gb386) (.slice Ao24 t359.length co24) t359) ∧ Aside0 (Kd.N k43 43 wc w.heap.size (fun k_ => some k_ ≠ ((.slice Ao24 t359.length co24) : Value).ownBlock ∧ some k_ ≠ ((.slice Ao28 t365.length co28) : Value).ownBlock ∧ some k_ ≠ ((.slice Ao35 t373.length co35) : Value).ownBlock ∧ some k_ ≠ ((.slice Ao43 t381.length co43) : Value).ownBlock ∧ k_ ≠ gb355 ∧ k_ ≠ gb370 ∧ k_ ≠ gb378 ∧ k_ ≠ gb386) (.slice Ao27 t362.length co27) t362) ∧ Aside0 (Kd.R k58 58 wc w.heap.size (fun _ => True) (.slice Ao28 t365.length co28) t365) ∧ Aside0 (Kd.R (Kd.int .i64) 3 wc w.heap.size (fun k_ => some k_ ≠ ((.slice Ao43 t381.length co43) : Value).ownBlock) (.slice Ao35 t373.length co35) t373) ∧ Aside0 (Kd.R (Kd.int .i64) 3 wc w.heap.size (fun k_ => some k_ ≠ ((.slice Ao35 t373.length co35) : Value).ownBlock) (.slice Ao43 t381.length co43) t381) ∧ Aside0 (wc.heap[gb355]? = some (.cells #[(.slice A0_0 l0_0.length c0_0), (.slice A0_1 l0_1.length c0_1), (.slice A0_2 l0_2.length c0_2), .int .i64 a0_3, .int .i64 a0_4] 26 (0, 0))) ∧ Aside0 (wc.heap[gb370]? = some (.cells #[(.slice Ao24 t359.length co24), (.slice Ao27 t362.length co27), (.slice Ao28 t365.length co28), .int .i64 t368, .int .i64 t369] 26 (0, 0))) ∧ Aside0 (wc.heap[gb378]? = some (.cells #[.int .i64 t371, .int .i64 t372, (.slice Ao35 t373.length co35), .int .i64 t376] 33 (0, 0))) ∧ Aside0 (wc.heap[gb386]? = some (.cells #[.int .i64 t379, .int .i64 t380, (.slice Ao43 t381.length co43), .int .i64 t384] 33 (0, 0))) ∧ Aside0 (Below w.heap.size w wc))
      case first =>
        have H := HC20.out
        clear HC20
        by_cases c44 : t385 = 0
        rotate_left
        · rw [if_neg c44] at H
          have c44b0 : (t385 == 0) = false := beq_eq_false_iff_ne.mpr c44
          have c44b1 : (t385 != 0) = true := bne_iff_ne.mpr c44
          (first | rw [c44b0] | (simp only [i64_w, i32_w]; rw [c44b0]) | skip)
          have H' := AM H
          clear H
          try go_wp2
          have n0_ : Aside0 (Kd.N (Kd.slice 41 k41) 39 ((((w38.setCell ⟨gb386, 0, none⟩ (.int .i64 t379)).setCell ⟨gb386, 1, none⟩ (.int .i64 t380)).setCell ⟨gb386, 2, none⟩ (.slice Ao43 t381.length co43)).setCell ⟨gb386, 3, none⟩ (.int .i64 t384)) w.heap.size (fun k_ => some k_ ≠ (.slice Ao27 t362.length co27 : Value).ownBlock ∧ some k_ ≠ (.slice Ao28 t365.length co28 : Value).ownBlock ∧ some k_ ≠ (.slice Ao35 t373.length co35 : Value).ownBlock ∧ some k_ ≠ (.slice Ao43 t381.length co43 : Value).ownBlock ∧ k_ ≠ gb355 ∧ k_ ≠ gb370 ∧ k_ ≠ gb378 ∧ k_ ≠ gb386) (.slice Ao24 t359.length co24) t359) := ⟨by (with_reducible repeat (first | apply nA | apply nD | apply n1x)); exact Kd.N_mono (Kd.N_far (p := ⟨gb386, 3, none⟩) (Kd.N_far (p := ⟨gb386, 2, none⟩) (Kd.N_far (p := ⟨gb386, 1, none⟩) (Kd.N_far (p := ⟨gb386, 0, none⟩) (Kd.N_mono HO361.out (fun k_ hk => (⟨hk, hk.2⟩ : _ ∧ k_ ≠ gb386))) (fun _ hk => hk.2) (.int .i64 t379)) (fun _ hk => hk.2) (.int .i64 t380)) (fun _ hk => hk.2) (.slice Ao43 t381.length co43)) (fun _ hk => hk.2) (.int .i64 t384)) (fun _ hk => ⟨hk.1.1.1.1.1.1.1, ⟨hk.1.1.1.1.1.1.2.1, ⟨hk.1.1.1.1.2, ⟨hk.1.1.2, ⟨hk.1.1.1.1.1.1.2.2, ⟨hk.1.1.1.1.1.2, ⟨hk.1.1.1.2, hk.1.2⟩⟩⟩⟩⟩⟩⟩)⟩
          have n1_ : Aside0 (Kd.N k43 43 ((((w38.setCell ⟨gb386, 0, none⟩ (.int .i64 t379)).setCell ⟨gb386, 1, none⟩ (.int .i64 t380)).setCell ⟨gb386, 2, none⟩ (.slice Ao43 t381.length co43)).setCell ⟨gb386, 3, none⟩ (.int .i64 t384)) w.heap.size (fun k_ => some k_ ≠ (.slice Ao24 t359.length co24 : Value).ownBlock ∧ some k_ ≠ (.slice Ao28 t365.length co28 : Value).ownBlock ∧ some k_ ≠ (.slice Ao35 t373.length co35 : Value).ownBlock ∧ some k_ ≠ (.slice Ao43 t381.length co43 : Value).ownBlock ∧ k_ ≠ gb355 ∧ k_ ≠ gb370 ∧ k_ ≠ gb378 ∧ k_ ≠ gb386) (.slice Ao27 t362.length co27) t362) := ⟨by (with_reducible repeat (first | apply nA | apply nD | apply n1x)); exact Kd.N_mono (Kd.N_far (p := ⟨gb386, 3, none⟩) (Kd.N_far (p := ⟨gb386, 2, none⟩) (Kd.N_far (p := ⟨gb386, 1, none⟩) (Kd.N_far (p := ⟨gb386, 0, none⟩) (Kd.N_mono HO364.out (fun k_ hk => (⟨hk, hk.2⟩ : _ ∧ k_ ≠ gb386))) (fun _ hk => hk.2) (.int .i64 t379)) (fun _ hk => hk.2) (.int .i64 t380)) (fun _ hk => hk.2) (.slice Ao43 t381.length co43)) (fun _ hk => hk.2) (.int .i64 t384)) (fun _ hk => ⟨hk.1.1.1.1.1.1.1, ⟨hk.1.1.1.1.1.1.2.1, ⟨hk.1.1.1.1.2, ⟨hk.1.1.2, ⟨hk.1.1.1.1.1.1.2.2, ⟨hk.1.1.1.1.1.2, ⟨hk.1.1.1.2, hk.1.2⟩⟩⟩⟩⟩⟩⟩)⟩
          have n2_ : Aside0 (Kd.R k58 58 ((((w38.setCell ⟨gb386, 0, none⟩ (.int .i64 t379)).setCell ⟨gb386, 1, none⟩ (.int .i64 t380)).setCell ⟨gb386, 2, none⟩ (.slice Ao43 t381.length co43)).setCell ⟨gb386, 3, none⟩ (.int .i64 t384)) w.heap.size (fun _ => True) (.slice Ao28 t365.length co28) t365) := ⟨by (with_reducible repeat (first | apply rA | apply rD | apply r1x)); exact Kd.R_mono (Kd.R_far (p := ⟨gb386, 3, none⟩) (Kd.R_far (p := ⟨gb386, 2, none⟩) (Kd.R_far (p := ⟨gb386, 1, none⟩) (Kd.R_far (p := ⟨gb386, 0, none⟩) (Kd.R_types HO367.out BK386.out (by decide)) (fun _ hk => hk.2) (.int .i64 t379)) (fun _ hk => hk.2) (.int .i64 t380)) (fun _ hk => hk.2) (.slice Ao43 t381.length co43)) (fun _ hk => hk.2) (.int .i64 t384)) (fun _ hk => trivial)⟩
          have n3_ : Aside0 (Kd.R (Kd.int .i64) 3 ((((w38.setCell ⟨gb386, 0, none⟩ (.int .i64 t379)).setCell ⟨gb386, 1, none⟩ (.int .i64 t380)).setCell ⟨gb386, 2, none⟩ (.slice Ao43 t381.length co43)).setCell ⟨gb386, 3, none⟩ (.int .i64 t384)) w.heap.size (fun k_ => some k_ ≠ (.slice Ao43 t381.length co43 : Value).ownBlock) (.slice Ao35 t373.length co35) t373) := ⟨by (with_reducible repeat (first | apply rA | apply rD | apply r1x)); exact Kd.R_mono (Kd.R_far (p := ⟨gb386, 3, none⟩) (Kd.R_far (p := ⟨gb386, 2, none⟩) (Kd.R_far (p := ⟨gb386, 1, none⟩) (Kd.R_far (p := ⟨gb386, 0, none⟩) (Kd.R_types HO375.out BK386.out (by decide)) (fun _ hk => hk.2) (.int .i64 t379)) (fun _ hk => hk.2) (.int .i64 t380)) (fun _ hk => hk.2) (.slice Ao43 t381.length co43)) (fun _ hk => hk.2) (.int .i64 t384)) (fun _ hk => hk.1.2)⟩
          have n4_ : Aside0 (Kd.R (Kd.int .i64) 3 ((((w38.setCell ⟨gb386, 0, none⟩ (.int .i64 t379)).setCell ⟨gb386, 1, none⟩ (.int .i64 t380)).setCell ⟨gb386, 2, none⟩ (.slice Ao43 t381.length co43)).setCell ⟨gb386, 3, none⟩ (.int .i64 t384)) w.heap.size (fun k_ => some k_ ≠ (.slice Ao35 t373.length co35 : Value).ownBlock) (.slice Ao43 t381.length co43) t381) := ⟨by (with_reducible repeat (first | apply rA | apply rD | apply r1x)); exact Kd.R_mono (Kd.R_far (p := ⟨gb386, 3, none⟩) (Kd.R_far (p := ⟨gb386, 2, none⟩) (Kd.R_far (p := ⟨gb386, 1, none⟩) (Kd.R_far (p := ⟨gb386, 0, none⟩) (Kd.R_types HO383.out BK386.out (by decide)) (fun _ hk => hk.2) (.int .i64 t379)) (fun _ hk => hk.2) (.int .i64 t380)) (fun _ hk => hk.2) (.slice Ao43 t381.length co43)) (fun _ hk => hk.2) (.int .i64 t384)) (fun _ hk => hk.1.2)⟩
          have n5_ : Aside0 (((((w38.setCell ⟨gb386, 0, none⟩ (.int .i64 t379)).setCell ⟨gb386, 1, none⟩ (.int .i64 t380)).setCell ⟨gb386, 2, none⟩ (.slice Ao43 t381.length co43)).setCell ⟨gb386, 3, none⟩ (.int .i64 t384)).heap[gb355]? = some (.cells #[.slice A0_0 l0_0.length c0_0, .slice A0_1 l0_1.length c0_1, .slice A0_2 l0_2.length c0_2, .int .i64 a0_3, .int .i64 a0_4] 26 (0, 0))) := ⟨by (with_reducible repeat (first | refine kD ?_ _ | refine k1_ ?_ | refine kA ?_ _)); refine kF ?_ NB355_386.out _; (with_reducible repeat (first | refine kD ?_ _ | refine k1_ ?_ | refine kA ?_ _)); refine kF ?_ NB355_386.out _; (with_reducible repeat (first | refine kD ?_ _ | refine k1_ ?_ | refine kA ?_ _)); refine kF ?_ NB355_386.out _; (with_reducible repeat (first | refine kD ?_ _ | refine k1_ ?_ | refine kA ?_ _)); refine kF ?_ NB355_386.out _; (with_reducible repeat (first | refine kD ?_ _ | refine k1_ ?_ | refine kA ?_ _)); exact BK355.out⟩
          have n6_ : Aside0 (((((w38.setCell ⟨gb386, 0, none⟩ (.int .i64 t379)).setCell ⟨gb386, 1, none⟩ (.int .i64 t380)).setCell ⟨gb386, 2, none⟩ (.slice Ao43 t381.length co43)).setCell ⟨gb386, 3, none⟩ (.int .i64 t384)).heap[gb370]? = some (.cells #[.slice Ao24 t359.length co24, .slice Ao27 t362.length co27, .slice Ao28 t365.length co28, .int .i64 t368, .int .i64 t369] 26 (0, 0))) := ⟨by (with_reducible repeat (first | refine kD ?_ _ | refine k1_ ?_ | refine kA ?_ _)); refine kF ?_ NB370_386.out _; (with_reducible repeat (first | refine kD ?_ _ | refine k1_ ?_ | refine kA ?_ _)); refine kF ?_ NB370_386.out _; (with_reducible repeat (first | refine kD ?_ _ | refine k1_ ?_ | refine kA ?_ _)); refine kF ?_ NB370_386.out _; (with_reducible repeat (first | refine kD ?_ _ | refine k1_ ?_ | refine kA ?_ _)); refine kF ?_ NB370_386.out _; (with_reducible repeat (first | refine kD ?_ _ | refine k1_ ?_ | refine kA ?_ _)); exact BK370.out⟩
          have n7_ : Aside0 (((((w38.setCell ⟨gb386, 0, none⟩ (.int .i64 t379)).setCell ⟨gb386, 1, none⟩ (.int .i64 t380)).setCell ⟨gb386, 2, none⟩ (.slice Ao43 t381.length co43)).setCell ⟨gb386, 3, none⟩ (.int .i64 t384)).heap[gb378]? = some (.cells #[.int .i64 t371, .int .i64 t372, .slice Ao35 t373.length co35, .int .i64 t376] 33 (0, 0))) := ⟨by (with_reducible repeat (first | refine kD ?_ _ | refine k1_ ?_ | refine kA ?_ _)); refine kF ?_ NB378_386.out _; (with_reducible repeat (first | refine kD ?_ _ | refine k1_ ?_ | refine kA ?_ _)); refine kF ?_ NB378_386.out _; (with_reducible repeat (first | refine kD ?_ _ | refine k1_ ?_ | refine kA ?_ _)); refine kF ?_ NB378_386.out _; (with_reducible repeat (first | refine kD ?_ _ | refine k1_ ?_ | refine kA ?_ _)); refine kF ?_ NB378_386.out _; (with_reducible repeat (first | refine kD ?_ _ | refine k1_ ?_ | refine kA ?_ _)); exact BK378.out⟩
          have n8_ : Aside0 (((((w38.setCell ⟨gb386, 0, none⟩ (.int .i64 t379)).setCell ⟨gb386, 1, none⟩ (.int .i64 t380)).setCell ⟨gb386, 2, none⟩ (.slice Ao43 t381.length co43)).setCell ⟨gb386, 3, none⟩ (.int .i64 t384)).heap[gb386]? = some (.cells #[.int .i64 t379, .int .i64 t380, .slice Ao43 t381.length co43, .int .i64 t384] 33 (0, 0))) := ⟨by (with_reducible repeat (first | refine kD ?_ _ | refine k1_ ?_ | refine kA ?_ _)); refine kP (cs := #[.int .i64 t379, .int .i64 t380, .slice Ao43 t381.length co43, .int .i64 0]) ?_ 3 _ rfl; (with_reducible repeat (first | refine kD ?_ _ | refine k1_ ?_ | refine kA ?_ _)); refine kP (cs := #[.int .i64 t379, .int .i64 t380, .slice none 0 0, .int .i64 0]) ?_ 2 _ rfl; (with_reducible repeat (first | refine kD ?_ _ | refine k1_ ?_ | refine kA ?_ _)); refine kP (cs := #[.int .i64 t379, .int .i64 0, .slice none 0 0, .int .i64 0]) ?_ 1 _ rfl; (with_reducible repeat (first | refine kD ?_ _ | refine k1_ ?_ | refine kA ?_ _)); refine kP (cs := #[.int .i64 0, .int .i64 0, .slice none 0 0, .int .i64 0]) ?_ 0 _ rfl; (with_reducible repeat (first | refine kD ?_ _ | refine k1_ ?_ | refine kA ?_ _)); exact BK386.out⟩
          have n9_ : Aside0 (Below w.heap.size w ((((w38.setCell ⟨gb386, 0, none⟩ (.int .i64 t379)).setCell ⟨gb386, 1, none⟩ (.int .i64 t380)).setCell ⟨gb386, 2, none⟩ (.slice Ao43 t381.length co43)).setCell ⟨gb386, 3, none⟩ (.int .i64 t384))) := ⟨by repeat (first | (with_reducible first | exact HB.out | apply bA | apply bD | apply b1 | refine bS ?_ GE355.out | refine bS ?_ GE370.out | refine bS ?_ GE378.out | refine bS ?_ GE386.out) | exact HB.out)⟩
          (try clear HO361)
          (try clear HO364)
          (try clear HO367)
          (try clear HO375)
          (try clear HO383)
          (try clear BK355)
          (try clear BK370)
          (try clear BK378)
          (try clear BK386)
          (try clear HB)
          generalize ((((w38.setCell ⟨gb386, 0, none⟩ (.int .i64 t379)).setCell ⟨gb386, 1, none⟩ (.int .i64 t380)).setCell ⟨gb386, 2, none⟩ (.slice Ao43 t381.length co43)).setCell ⟨gb386, 3, none⟩ (.int .i64 t384)) = w54 at n0_ n1_ n2_ n3_ n4_ n5_ n6_ n7_ n8_ n9_ ⊢
          have HO361 := n0_
          have HO364 := n1_
          have HO367 := n2_
          have HO375 := n3_
          have HO383 := n4_
          have BK355 := n5_
          have BK370 := n6_
          have BK378 := n7_
          have BK386 := n8_
          have HB := n9_
          clear n0_ n1_ n2_ n3_ n4_ n5_ n6_ n7_ n8_ n9_
          have n0_ := AM (n1x HO361.out)
          have n1_ := AM (n1x HO364.out)
          have n2_ := AM (r1x HO367.out)
          have n3_ := AM (r1x HO375.out)
          have n4_ := AM (r1x HO383.out)
          have n5_ := AM (k1_ BK355.out)
          have n6_ := AM (k1_ BK370.out)
          have n7_ := AM (k1_ BK378.out)
          have n8_ := AM (k1_ BK386.out)
          have n9_ := AM (b1 HB.out)
          clear HO361
          clear HO364
          clear HO367
          clear HO375
          clear HO383
          clear BK355
          clear BK370
          clear BK378
          clear BK386
          clear HB
          have HO361 := n0_
          have HO364 := n1_
          have HO367 := n2_
          have HO375 := n3_
          have HO383 := n4_
          have BK355 := n5_
          have BK370 := n6_
          have BK378 := n7_
          have BK386 := n8_
          have HB := n9_
          clear n0_ n1_ n2_ n3_ n4_ n5_ n6_ n7_ n8_ n9_
          refine start_ (n := 16) (S := fun w' => True) (ds := []) #[false, false, false, false, false, false, false, false, false, false, false, false, false, false, false, false] (by kernel_rfl) rfl rfl trivial (fun hHeld => ?_); refine with_tabW stipendlaw10_KeepOrder.tab10 stipendlaw10_KeepOrder.bits10 (fun HT_ HW_ => ?_)
          generalize w54.drew = w55 at HO361 HO364 HO367 HO375 HO383 BK355 BK370 BK378 BK386 HB hHeld ⊢
          refine pure_ (i := 0) (N := some 38) (v := ?_) (a' := ?_) #[true, false, false, false, false, false, false, false, false, false, false, false, false, false, false, false] rfl rfl (any_of HT_.out (by kernel_rfl)) (fun _ _ _ h => h) (Or.inl ⟨by rfl, ?_⟩) ?_ ?_
          rotate_left
          · intro w'
            go_simp
            with_reducible rfl
          rotate_left
          · simp only [Act.put, List.setIfInBounds_toArray, List.set_cons_zero, List.set_cons_succ, i64_w, i32_w]
            rfl
          refine pure_ (i := 1) (N := some 39) (v := ?_) (a' := ?_) #[true, true, false, false, false, false, false, false, false, false, false, false, false, false, false, false] rfl rfl (any_of HT_.out (by kernel_rfl)) (fun _ _ _ h => h) (Or.inl ⟨by rfl, ?_⟩) ?_ ?_
          rotate_left
          · intro w'
            go_simp
            with_reducible rfl
          rotate_left
          · simp only [Act.put, List.setIfInBounds_toArray, List.set_cons_zero, List.set_cons_succ, i64_w, i32_w]
            rfl
          refine pure_ (i := 2) (N := some 40) (v := ?_) (a' := ?_) #[true, true, true, false, false, false, false, false, false, false, false, false, false, false, false, false] rfl rfl (any_of HT_.out (by kernel_rfl)) (fun _ _ _ h => h) (Or.inl ⟨by rfl, ?_⟩) ?_ ?_
          rotate_left
          · intro w'
            go_simp
            with_reducible rfl
          rotate_left
          · simp only [Act.put, List.setIfInBounds_toArray, List.set_cons_zero, List.set_cons_succ, i64_w, i32_w]
            rfl
          refine pure_ (i := 3) (N := some 41) (v := undef) (a' := ?_) #[true, true, true, true, false, false, false, false, false, false, false, false, false, false, false, false] rfl rfl (any_of HT_.out (by kernel_rfl)) (fun _ _ _ h => h) (Or.inr ⟨by rfl, rfl⟩) ?_ ?_
          rotate_left
          · simp only [Act.put, List.setIfInBounds_toArray, List.set_cons_zero, List.set_cons_succ, i64_w, i32_w]
            rfl
          refine pure_ (i := 4) (N := some 42) (v := undef) (a' := ?_) #[true, true, true, true, true, false, false, false, false, false, false, false, false, false, false, false] rfl rfl (any_of HT_.out (by kernel_rfl)) (fun _ _ _ h => h) (Or.inr ⟨by rfl, rfl⟩) ?_ ?_
          rotate_left
          · simp only [Act.put, List.setIfInBounds_toArray, List.set_cons_zero, List.set_cons_succ, i64_w, i32_w]
            rfl
          refine pure_ (i := 5) (N := some 43) (v := undef) (a' := ?_) #[true, true, true, true, true, true, false, false, false, false, false, false, false, false, false, false] rfl rfl (any_of HT_.out (by kernel_rfl)) (fun _ _ _ h => h) (Or.inr ⟨by rfl, rfl⟩) ?_ ?_
          rotate_left
          · simp only [Act.put, List.setIfInBounds_toArray, List.set_cons_zero, List.set_cons_succ, i64_w, i32_w]
            rfl
          refine pure_ (i := 6) (N := some 44) (v := undef) (a' := ?_) #[true, true, true, true, true, true, true, false, false, false, false, false, false, false, false, false] rfl rfl (any_of HT_.out (by kernel_rfl)) (fun _ _ _ h => h) (Or.inr ⟨by rfl, rfl⟩) ?_ ?_
          rotate_left
          · simp only [Act.put, List.setIfInBounds_toArray, List.set_cons_zero, List.set_cons_succ, i64_w, i32_w]
            rfl
          refine pure_ (i := 7) (N := some 45) (v := undef) (a' := ?_) #[true, true, true, true, true, true, true, true, false, false, false, false, false, false, false, false] rfl rfl (any_of HT_.out (by kernel_rfl)) (fun _ _ _ h => h) (Or.inr ⟨by rfl, rfl⟩) ?_ ?_
          rotate_left
          · simp only [Act.put, List.setIfInBounds_toArray, List.set_cons_zero, List.set_cons_succ, i64_w, i32_w]
            rfl
          refine pure_ (i := 8) (N := some 46) (v := ?_) (a' := ?_) #[true, true, true, true, true, true, true, true, true, false, false, false, false, false, false, false] rfl rfl (any_of HT_.out (by kernel_rfl)) (fun _ _ _ h => h) (Or.inl ⟨by rfl, ?_⟩) ?_ ?_
          rotate_left
          · intro w'
            go_simp
            with_reducible rfl
          rotate_left
          · simp only [Act.put, List.setIfInBounds_toArray, List.set_cons_zero, List.set_cons_succ, i64_w, i32_w]
            rfl
          refine pure_ (i := 9) (N := some 47) (v := ?_) (a' := ?_) #[true, true, true, true, true, true, true, true, true, true, false, false, false, false, false, false] rfl rfl (any_of HT_.out (by kernel_rfl)) (fun _ _ _ h => h) (Or.inl ⟨by rfl, ?_⟩) ?_ ?_
          rotate_left
          · intro w'
            go_simp
            with_reducible rfl
          rotate_left
          · simp only [Act.put, List.setIfInBounds_toArray, List.set_cons_zero, List.set_cons_succ, i64_w, i32_w]
            rfl
          refine pure_ (i := 10) (N := some 48) (v := undef) (a' := ?_) #[true, true, true, true, true, true, true, true, true, true, true, false, false, false, false, false] rfl rfl (any_of HT_.out (by kernel_rfl)) (fun _ _ _ h => h) (Or.inr ⟨by rfl, rfl⟩) ?_ ?_
          rotate_left
          · simp only [Act.put, List.setIfInBounds_toArray, List.set_cons_zero, List.set_cons_succ, i64_w, i32_w]
            rfl
          refine pure_ (i := 11) (N := some 49) (v := undef) (a' := ?_) #[true, true, true, true, true, true, true, true, true, true, true, true, false, false, false, false] rfl rfl (any_of HT_.out (by kernel_rfl)) (fun _ _ _ h => h) (Or.inr ⟨by rfl, rfl⟩) ?_ ?_
          rotate_left
          · simp only [Act.put, List.setIfInBounds_toArray, List.set_cons_zero, List.set_cons_succ, i64_w, i32_w]
            rfl
          refine pure_ (i := 12) (N := some 50) (v := undef) (a' := ?_) #[true, true, true, true, true, true, true, true, true, true, true, true, true, false, false, false] rfl rfl (any_of HT_.out (by kernel_rfl)) (fun _ _ _ h => h) (Or.inr ⟨by rfl, rfl⟩) ?_ ?_
          rotate_left
          · simp only [Act.put, List.setIfInBounds_toArray, List.set_cons_zero, List.set_cons_succ, i64_w, i32_w]
            rfl
          refine pure_ (i := 13) (N := some 51) (v := undef) (a' := ?_) #[true, true, true, true, true, true, true, true, true, true, true, true, true, true, false, false] rfl rfl (any_of HT_.out (by kernel_rfl)) (fun _ _ _ h => h) (Or.inr ⟨by rfl, rfl⟩) ?_ ?_
          rotate_left
          · simp only [Act.put, List.setIfInBounds_toArray, List.set_cons_zero, List.set_cons_succ, i64_w, i32_w]
            rfl
          refine pure_ (i := 14) (N := some 52) (v := undef) (a' := ?_) #[true, true, true, true, true, true, true, true, true, true, true, true, true, true, true, false] rfl rfl (any_of HT_.out (by kernel_rfl)) (fun _ _ _ h => h) (Or.inr ⟨by rfl, rfl⟩) ?_ ?_
          rotate_left
          · simp only [Act.put, List.setIfInBounds_toArray, List.set_cons_zero, List.set_cons_succ, i64_w, i32_w]
            rfl
          refine pure_ (i := 15) (N := some 53) (v := ?_) (a' := ?_) #[true, true, true, true, true, true, true, true, true, true, true, true, true, true, true, true] rfl rfl (any_of HT_.out (by kernel_rfl)) (fun _ _ _ h => h) (Or.inl ⟨by rfl, ?_⟩) ?_ ?_
          rotate_left
          · intro w'
            go_simp
            with_reducible rfl
          rotate_left
          · simp only [Act.put, List.setIfInBounds_toArray, List.set_cons_zero, List.set_cons_succ, i64_w, i32_w]
            rfl
          refine done_ (done_of HT_.out (by kernel_rfl)) ?_
          try go_wp2
          go_meet
          case rel => exact ⟨_, (true), (by first | rfl | (simp; done) | (simp [*]; done)), H', ⟨by have := HJ3.out; first | omega | exact Nat.le_refl _⟩, ⟨by (with_reducible repeat (first | apply nA | apply nD | apply n1x)); exact HO361.out⟩, ⟨by (with_reducible repeat (first | apply nA | apply nD | apply n1x)); exact HO364.out⟩, ⟨by (with_reducible repeat (first | apply rA | apply rD | apply r1x)); exact HO367.out⟩, ⟨by (with_reducible repeat (first | apply rA | apply rD | apply r1x)); exact HO375.out⟩, ⟨by (with_reducible repeat (first | apply rA | apply rD | apply r1x)); exact HO383.out⟩, ⟨by (with_reducible repeat (first | refine kD ?_ _ | refine k1_ ?_ | refine kA ?_ _)); exact BK355.out⟩, ⟨by (with_reducible repeat (first | refine kD ?_ _ | refine k1_ ?_ | refine kA ?_ _)); exact BK370.out⟩, ⟨by (with_reducible repeat (first | refine kD ?_ _ | refine k1_ ?_ | refine kA ?_ _)); exact BK378.out⟩, ⟨by (with_reducible repeat (first | refine kD ?_ _ | refine k1_ ?_ | refine kA ?_ _)); exact BK386.out⟩, ⟨by repeat (first | (with_reducible first | exact HB.out | apply bA | apply bD | apply b1 | refine bS ?_ GE355.out | refine bS ?_ GE370.out | refine bS ?_ GE378.out | refine bS ?_ GE386.out) | exact HB.out)⟩⟩
        rw [if_pos c44] at H
        have c44b0 : (t385 == 0) = true := beq_iff_eq.mpr c44
        have c44b1 : (t385 != 0) = false := bne_eq_false_iff_eq.mpr c44
        clear c44
        (first | rw [c44b0] | (simp only [i64_w, i32_w]; rw [c44b0]) | skip)
        by_cases c45 : t376 = t384
        rotate_left
        · rw [if_neg c45] at H
          have c45b0 : (t376 == t384) = false := beq_eq_false_iff_ne.mpr c45
          have c45b1 : (t376 != t384) = true := bne_iff_ne.mpr c45
          have H' := AM H
          clear H
          try go_wp2
          have n0_ : Aside0 (Kd.N (Kd.slice 41 k41) 39 ((((w38.setCell ⟨gb386, 0, none⟩ (.int .i64 t379)).setCell ⟨gb386, 1, none⟩ (.int .i64 t380)).setCell ⟨gb386, 2, none⟩ (.slice Ao43 t381.length co43)).setCell ⟨gb386, 3, none⟩ (.int .i64 t384)) w.heap.size (fun k_ => some k_ ≠ (.slice Ao27 t362.length co27 : Value).ownBlock ∧ some k_ ≠ (.slice Ao28 t365.length co28 : Value).ownBlock ∧ some k_ ≠ (.slice Ao35 t373.length co35 : Value).ownBlock ∧ some k_ ≠ (.slice Ao43 t381.length co43 : Value).ownBlock ∧ k_ ≠ gb355 ∧ k_ ≠ gb370 ∧ k_ ≠ gb378 ∧ k_ ≠ gb386) (.slice Ao24 t359.length co24) t359) := ⟨by (with_reducible repeat (first | apply nA | apply nD | apply n1x)); exact Kd.N_mono (Kd.N_far (p := ⟨gb386, 3, none⟩) (Kd.N_far (p := ⟨gb386, 2, none⟩) (Kd.N_far (p := ⟨gb386, 1, none⟩) (Kd.N_far (p := ⟨gb386, 0, none⟩) (Kd.N_mono HO361.out (fun k_ hk => (⟨hk, hk.2⟩ : _ ∧ k_ ≠ gb386))) (fun _ hk => hk.2) (.int .i64 t379)) (fun _ hk => hk.2) (.int .i64 t380)) (fun _ hk => hk.2) (.slice Ao43 t381.length co43)) (fun _ hk => hk.2) (.int .i64 t384)) (fun _ hk => ⟨hk.1.1.1.1.1.1.1, ⟨hk.1.1.1.1.1.1.2.1, ⟨hk.1.1.1.1.2, ⟨hk.1.1.2, ⟨hk.1.1.1.1.1.1.2.2, ⟨hk.1.1.1.1.1.2, ⟨hk.1.1.1.2, hk.1.2⟩⟩⟩⟩⟩⟩⟩)⟩
          have n1_ : Aside0 (Kd.N k43 43 ((((w38.setCell ⟨gb386, 0, none⟩ (.int .i64 t379)).setCell ⟨gb386, 1, none⟩ (.int .i64 t380)).setCell ⟨gb386, 2, none⟩ (.slice Ao43 t381.length co43)).setCell ⟨gb386, 3, none⟩ (.int .i64 t384)) w.heap.size (fun k_ => some k_ ≠ (.slice Ao24 t359.length co24 : Value).ownBlock ∧ some k_ ≠ (.slice Ao28 t365.length co28 : Value).ownBlock ∧ some k_ ≠ (.slice Ao35 t373.length co35 : Value).ownBlock ∧ some k_ ≠ (.slice Ao43 t381.length co43 : Value).ownBlock ∧ k_ ≠ gb355 ∧ k_ ≠ gb370 ∧ k_ ≠ gb378 ∧ k_ ≠ gb386) (.slice Ao27 t362.length co27) t362) := ⟨by (with_reducible repeat (first | apply nA | apply nD | apply n1x)); exact Kd.N_mono (Kd.N_far (p := ⟨gb386, 3, none⟩) (Kd.N_far (p := ⟨gb386, 2, none⟩) (Kd.N_far (p := ⟨gb386, 1, none⟩) (Kd.N_far (p := ⟨gb386, 0, none⟩) (Kd.N_mono HO364.out (fun k_ hk => (⟨hk, hk.2⟩ : _ ∧ k_ ≠ gb386))) (fun _ hk => hk.2) (.int .i64 t379)) (fun _ hk => hk.2) (.int .i64 t380)) (fun _ hk => hk.2) (.slice Ao43 t381.length co43)) (fun _ hk => hk.2) (.int .i64 t384)) (fun _ hk => ⟨hk.1.1.1.1.1.1.1, ⟨hk.1.1.1.1.1.1.2.1, ⟨hk.1.1.1.1.2, ⟨hk.1.1.2, ⟨hk.1.1.1.1.1.1.2.2, ⟨hk.1.1.1.1.1.2, ⟨hk.1.1.1.2, hk.1.2⟩⟩⟩⟩⟩⟩⟩)⟩
          have n2_ : Aside0 (Kd.R k58 58 ((((w38.setCell ⟨gb386, 0, none⟩ (.int .i64 t379)).setCell ⟨gb386, 1, none⟩ (.int .i64 t380)).setCell ⟨gb386, 2, none⟩ (.slice Ao43 t381.length co43)).setCell ⟨gb386, 3, none⟩ (.int .i64 t384)) w.heap.size (fun _ => True) (.slice Ao28 t365.length co28) t365) := ⟨by (with_reducible repeat (first | apply rA | apply rD | apply r1x)); exact Kd.R_mono (Kd.R_far (p := ⟨gb386, 3, none⟩) (Kd.R_far (p := ⟨gb386, 2, none⟩) (Kd.R_far (p := ⟨gb386, 1, none⟩) (Kd.R_far (p := ⟨gb386, 0, none⟩) (Kd.R_types HO367.out BK386.out (by decide)) (fun _ hk => hk.2) (.int .i64 t379)) (fun _ hk => hk.2) (.int .i64 t380)) (fun _ hk => hk.2) (.slice Ao43 t381.length co43)) (fun _ hk => hk.2) (.int .i64 t384)) (fun _ hk => trivial)⟩
          have n3_ : Aside0 (Kd.R (Kd.int .i64) 3 ((((w38.setCell ⟨gb386, 0, none⟩ (.int .i64 t379)).setCell ⟨gb386, 1, none⟩ (.int .i64 t380)).setCell ⟨gb386, 2, none⟩ (.slice Ao43 t381.length co43)).setCell ⟨gb386, 3, none⟩ (.int .i64 t384)) w.heap.size (fun k_ => some k_ ≠ (.slice Ao43 t381.length co43 : Value).ownBlock) (.slice Ao35 t373.length co35) t373) := ⟨by (with_reducible repeat (first | apply rA | apply rD | apply r1x)); exact Kd.R_mono (Kd.R_far (p := ⟨gb386, 3, none⟩) (Kd.R_far (p := ⟨gb386, 2, none⟩) (Kd.R_far (p := ⟨gb386, 1, none⟩) (Kd.R_far (p := ⟨gb386, 0, none⟩) (Kd.R_types HO375.out BK386.out (by decide)) (fun _ hk => hk.2) (.int .i64 t379)) (fun _ hk => hk.2) (.int .i64 t380)) (fun _ hk => hk.2) (.slice Ao43 t381.length co43)) (fun _ hk => hk.2) (.int .i64 t384)) (fun _ hk => hk.1.2)⟩
          have n4_ : Aside0 (Kd.R (Kd.int .i64) 3 ((((w38.setCell ⟨gb386, 0, none⟩ (.int .i64 t379)).setCell ⟨gb386, 1, none⟩ (.int .i64 t380)).setCell ⟨gb386, 2, none⟩ (.slice Ao43 t381.length co43)).setCell ⟨gb386, 3, none⟩ (.int .i64 t384)) w.heap.size (fun k_ => some k_ ≠ (.slice Ao35 t373.length co35 : Value).ownBlock) (.slice Ao43 t381.length co43) t381) := ⟨by (with_reducible repeat (first | apply rA | apply rD | apply r1x)); exact Kd.R_mono (Kd.R_far (p := ⟨gb386, 3, none⟩) (Kd.R_far (p := ⟨gb386, 2, none⟩) (Kd.R_far (p := ⟨gb386, 1, none⟩) (Kd.R_far (p := ⟨gb386, 0, none⟩) (Kd.R_types HO383.out BK386.out (by decide)) (fun _ hk => hk.2) (.int .i64 t379)) (fun _ hk => hk.2) (.int .i64 t380)) (fun _ hk => hk.2) (.slice Ao43 t381.length co43)) (fun _ hk => hk.2) (.int .i64 t384)) (fun _ hk => hk.1.2)⟩
          have n5_ : Aside0 (((((w38.setCell ⟨gb386, 0, none⟩ (.int .i64 t379)).setCell ⟨gb386, 1, none⟩ (.int .i64 t380)).setCell ⟨gb386, 2, none⟩ (.slice Ao43 t381.length co43)).setCell ⟨gb386, 3, none⟩ (.int .i64 t384)).heap[gb355]? = some (.cells #[.slice A0_0 l0_0.length c0_0, .slice A0_1 l0_1.length c0_1, .slice A0_2 l0_2.length c0_2, .int .i64 a0_3, .int .i64 a0_4] 26 (0, 0))) := ⟨by (with_reducible repeat (first | refine kD ?_ _ | refine k1_ ?_ | refine kA ?_ _)); refine kF ?_ NB355_386.out _; (with_reducible repeat (first | refine kD ?_ _ | refine k1_ ?_ | refine kA ?_ _)); refine kF ?_ NB355_386.out _; (with_reducible repeat (first | refine kD ?_ _ | refine k1_ ?_ | refine kA ?_ _)); refine kF ?_ NB355_386.out _; (with_reducible repeat (first | refine kD ?_ _ | refine k1_ ?_ | refine kA ?_ _)); refine kF ?_ NB355_386.out _; (with_reducible repeat (first | refine kD ?_ _ | refine k1_ ?_ | refine kA ?_ _)); exact BK355.out⟩
          have n6_ : Aside0 (((((w38.setCell ⟨gb386, 0, none⟩ (.int .i64 t379)).setCell ⟨gb386, 1, none⟩ (.int .i64 t380)).setCell ⟨gb386, 2, none⟩ (.slice Ao43 t381.length co43)).setCell ⟨gb386, 3, none⟩ (.int .i64 t384)).heap[gb370]? = some (.cells #[.slice Ao24 t359.length co24, .slice Ao27 t362.length co27, .slice Ao28 t365.length co28, .int .i64 t368, .int .i64 t369] 26 (0, 0))) := ⟨by (with_reducible repeat (first | refine kD ?_ _ | refine k1_ ?_ | refine kA ?_ _)); refine kF ?_ NB370_386.out _; (with_reducible repeat (first | refine kD ?_ _ | refine k1_ ?_ | refine kA ?_ _)); refine kF ?_ NB370_386.out _; (with_reducible repeat (first | refine kD ?_ _ | refine k1_ ?_ | refine kA ?_ _)); refine kF ?_ NB370_386.out _; (with_reducible repeat (first | refine kD ?_ _ | refine k1_ ?_ | refine kA ?_ _)); refine kF ?_ NB370_386.out _; (with_reducible repeat (first | refine kD ?_ _ | refine k1_ ?_ | refine kA ?_ _)); exact BK370.out⟩
          have n7_ : Aside0 (((((w38.setCell ⟨gb386, 0, none⟩ (.int .i64 t379)).setCell ⟨gb386, 1, none⟩ (.int .i64 t380)).setCell ⟨gb386, 2, none⟩ (.slice Ao43 t381.length co43)).setCell ⟨gb386, 3, none⟩ (.int .i64 t384)).heap[gb378]? = some (.cells #[.int .i64 t371, .int .i64 t372, .slice Ao35 t373.length co35, .int .i64 t376] 33 (0, 0))) := ⟨by (with_reducible repeat (first | refine kD ?_ _ | refine k1_ ?_ | refine kA ?_ _)); refine kF ?_ NB378_386.out _; (with_reducible repeat (first | refine kD ?_ _ | refine k1_ ?_ | refine kA ?_ _)); refine kF ?_ NB378_386.out _; (with_reducible repeat (first | refine kD ?_ _ | refine k1_ ?_ | refine kA ?_ _)); refine kF ?_ NB378_386.out _; (with_reducible repeat (first | refine kD ?_ _ | refine k1_ ?_ | refine kA ?_ _)); refine kF ?_ NB378_386.out _; (with_reducible repeat (first | refine kD ?_ _ | refine k1_ ?_ | refine kA ?_ _)); exact BK378.out⟩
          have n8_ : Aside0 (((((w38.setCell ⟨gb386, 0, none⟩ (.int .i64 t379)).setCell ⟨gb386, 1, none⟩ (.int .i64 t380)).setCell ⟨gb386, 2, none⟩ (.slice Ao43 t381.length co43)).setCell ⟨gb386, 3, none⟩ (.int .i64 t384)).heap[gb386]? = some (.cells #[.int .i64 t379, .int .i64 t380, .slice Ao43 t381.length co43, .int .i64 t384] 33 (0, 0))) := ⟨by (with_reducible repeat (first | refine kD ?_ _ | refine k1_ ?_ | refine kA ?_ _)); refine kP (cs := #[.int .i64 t379, .int .i64 t380, .slice Ao43 t381.length co43, .int .i64 0]) ?_ 3 _ rfl; (with_reducible repeat (first | refine kD ?_ _ | refine k1_ ?_ | refine kA ?_ _)); refine kP (cs := #[.int .i64 t379, .int .i64 t380, .slice none 0 0, .int .i64 0]) ?_ 2 _ rfl; (with_reducible repeat (first | refine kD ?_ _ | refine k1_ ?_ | refine kA ?_ _)); refine kP (cs := #[.int .i64 t379, .int .i64 0, .slice none 0 0, .int .i64 0]) ?_ 1 _ rfl; (with_reducible repeat (first | refine kD ?_ _ | refine k1_ ?_ | refine kA ?_ _)); refine kP (cs := #[.int .i64 0, .int .i64 0, .slice none 0 0, .int .i64 0]) ?_ 0 _ rfl; (with_reducible repeat (first | refine kD ?_ _ | refine k1_ ?_ | refine kA ?_ _)); exact BK386.out⟩
          have n9_ : Aside0 (Below w.heap.size w ((((w38.setCell ⟨gb386, 0, none⟩ (.int .i64 t379)).setCell ⟨gb386, 1, none⟩ (.int .i64 t380)).setCell ⟨gb386, 2, none⟩ (.slice Ao43 t381.length co43)).setCell ⟨gb386, 3, none⟩ (.int .i64 t384))) := ⟨by repeat (first | (with_reducible first | exact HB.out | apply bA | apply bD | apply b1 | refine bS ?_ GE355.out | refine bS ?_ GE370.out | refine bS ?_ GE378.out | refine bS ?_ GE386.out) | exact HB.out)⟩
          (try clear HO361)
          (try clear HO364)
          (try clear HO367)
          (try clear HO375)
          (try clear HO383)
          (try clear BK355)
          (try clear BK370)
          (try clear BK378)
          (try clear BK386)
          (try clear HB)
          generalize ((((w38.setCell ⟨gb386, 0, none⟩ (.int .i64 t379)).setCell ⟨gb386, 1, none⟩ (.int .i64 t380)).setCell ⟨gb386, 2, none⟩ (.slice Ao43 t381.length co43)).setCell ⟨gb386, 3, none⟩ (.int .i64 t384)) = w52 at n0_ n1_ n2_ n3_ n4_ n5_ n6_ n7_ n8_ n9_ ⊢
          have HO361 := n0_
          have HO364 := n1_
          have HO367 := n2_
          have HO375 := n3_
          have HO383 := n4_
          have BK355 := n5_
          have BK370 := n6_
          have BK378 := n7_
          have BK386 := n8_
          have HB := n9_
          clear n0_ n1_ n2_ n3_ n4_ n5_ n6_ n7_ n8_ n9_
          have n0_ := AM (n1x HO361.out)
          have n1_ := AM (n1x HO364.out)
          have n2_ := AM (r1x HO367.out)
          have n3_ := AM (r1x HO375.out)
          have n4_ := AM (r1x HO383.out)
          have n5_ := AM (k1_ BK355.out)
          have n6_ := AM (k1_ BK370.out)
          have n7_ := AM (k1_ BK378.out)
          have n8_ := AM (k1_ BK386.out)
          have n9_ := AM (b1 HB.out)
          clear HO361
          clear HO364
          clear HO367
          clear HO375
          clear HO383
          clear BK355
          clear BK370
          clear BK378
          clear BK386
          clear HB
          have HO361 := n0_
          have HO364 := n1_
          have HO367 := n2_
          have HO375 := n3_
          have HO383 := n4_
          have BK355 := n5_
          have BK370 := n6_
          have BK378 := n7_
          have BK386 := n8_
          have HB := n9_
          clear n0_ n1_ n2_ n3_ n4_ n5_ n6_ n7_ n8_ n9_
          refine start_ (n := 16) (S := fun w' => w'.cell? ⟨gb378, 0, none⟩ = some (.int .i64 t371) ∧ w'.cell? ⟨gb378, 1, none⟩ = some (.int .i64 t372) ∧ w'.cell? ⟨gb378, 2, none⟩ = some (.slice Ao35 t373.length co35) ∧ w'.cell? ⟨gb378, 3, none⟩ = some (.int .i64 t376) ∧ w'.cell? ⟨gb386, 0, none⟩ = some (.int .i64 t379) ∧ w'.cell? ⟨gb386, 1, none⟩ = some (.int .i64 t380) ∧ w'.cell? ⟨gb386, 2, none⟩ = some (.slice Ao43 t381.length co43) ∧ w'.cell? ⟨gb386, 3, none⟩ = some (.int .i64 t384)) (ds := []) #[false, false, false, false, false, false, false, false, false, false, false, false, false, false, false, false] (by kernel_rfl) rfl rfl ⟨(bC BK378.out 0).trans rfl, (bC BK378.out 1).trans rfl, (bC BK378.out 2).trans rfl, (bC BK378.out 3).trans rfl, (bC BK386.out 0).trans rfl, (bC BK386.out 1).trans rfl, (bC BK386.out 2).trans rfl, (bC BK386.out 3).trans rfl⟩ (fun hHeld => ?_); refine with_tabW stipendlaw10_KeepOrder.tab10 stipendlaw10_KeepOrder.bits10 (fun HT_ HW_ => ?_)
          generalize w52.drew = w53 at HO361 HO364 HO367 HO375 HO383 BK355 BK370 BK378 BK386 HB hHeld ⊢
          refine pure_ (i := 0) (N := some 38) (v := ?_) (a' := ?_) #[true, false, false, false, false, false, false, false, false, false, false, false, false, false, false, false] rfl rfl (any_of HT_.out (by kernel_rfl)) (fun _ _ _ h => h) (Or.inl ⟨by rfl, ?_⟩) ?_ ?_
          rotate_left
          · intro w'
            go_simp
            with_reducible rfl
          rotate_left
          · simp only [Act.put, List.setIfInBounds_toArray, List.set_cons_zero, List.set_cons_succ, i64_w, i32_w]
            rfl
          refine pure_ (i := 1) (N := some 39) (v := ?_) (a' := ?_) #[true, true, false, false, false, false, false, false, false, false, false, false, false, false, false, false] rfl rfl (any_of HT_.out (by kernel_rfl)) (fun _ _ _ h => h) (Or.inl ⟨by rfl, ?_⟩) ?_ ?_
          rotate_left
          · intro w'
            go_simp
            with_reducible rfl
          rotate_left
          · simp only [Act.put, List.setIfInBounds_toArray, List.set_cons_zero, List.set_cons_succ, i64_w, i32_w]
            rfl
          refine pure_ (i := 2) (N := some 40) (v := ?_) (a' := ?_) #[true, true, true, false, false, false, false, false, false, false, false, false, false, false, false, false] rfl rfl (any_of HT_.out (by kernel_rfl)) (fun _ _ _ h => h) (Or.inl ⟨by rfl, ?_⟩) ?_ ?_
          rotate_left
          · intro w'
            go_simp
            with_reducible rfl
          rotate_left
          · simp only [Act.put, List.setIfInBounds_toArray, List.set_cons_zero, List.set_cons_succ, i64_w, i32_w]
            rfl
          refine pure_ (i := 3) (N := some 41) (v := ?_) (a' := ?_) #[true, true, true, true, false, false, false, false, false, false, false, false, false, false, false, false] rfl rfl (any_of HT_.out (by kernel_rfl)) (fun _ _ _ h => h) (Or.inl ⟨by rfl, ?_⟩) ?_ ?_
          rotate_left
          · intro w'
            go_simp
            with_reducible rfl
          rotate_left
          · simp only [Act.put, List.setIfInBounds_toArray, List.set_cons_zero, List.set_cons_succ, i64_w, i32_w]
            rfl
          refine pure_ (i := 5) (N := some 43) (v := ?_) (a' := ?_) #[true, true, true, true, false, true, false, false, false, false, false, false, false, false, false, false] rfl rfl (any_of HT_.out (by kernel_rfl)) (fun _ _ _ h => h) (Or.inl ⟨by rfl, ?_⟩) ?_ ?_
          rotate_left
          · intro w'
            go_simp
            with_reducible rfl
          rotate_left
          · simp only [Act.put, List.setIfInBounds_toArray, List.set_cons_zero, List.set_cons_succ, i64_w, i32_w]
            rfl
          refine take_ (i := 4) (N := some 42) (v := ?_) (a' := ?_) #[true, true, true, true, true, true, false, false, false, false, false, false, false, false, false, false] rfl rfl (take_ofW HT_.out HW_.out (by kernel_rfl)) (fun _ _ _ h => h) (Or.inl ⟨by rfl, ?_⟩) hHeld ?_ ?_
          rotate_left
          · rintro w' ⟨s0, s1, s2, s3, s4, s5, s6, s7⟩
            go_simp
            with_reducible rfl
          rotate_left
          · simp only [Act.put, List.setIfInBounds_toArray, List.set_cons_zero, List.set_cons_succ, i64_w, i32_w]
            rfl
          refine take_ (i := 6) (N := some 44) (v := ?_) (a' := ?_) #[true, true, true, true, true, true, true, false, false, false, false, false, false, false, false, false] rfl rfl (take_ofW HT_.out HW_.out (by kernel_rfl)) (fun _ _ _ h => h) (Or.inl ⟨by rfl, ?_⟩) hHeld ?_ ?_
          rotate_left
          · rintro w' ⟨s0, s1, s2, s3, s4, s5, s6, s7⟩
            go_simp
            with_reducible rfl
          rotate_left
          · simp only [Act.put, List.setIfInBounds_toArray, List.set_cons_zero, List.set_cons_succ, i64_w, i32_w]
            rfl
          refine pure_ (i := 7) (N := some 45) (v := ?_) (a' := ?_) #[true, true, true, true, true, true, true, true, false, false, false, false, false, false, false, false] rfl rfl (any_of HT_.out (by kernel_rfl)) (fun _ _ _ h => h) (Or.inl ⟨by rfl, ?_⟩) ?_ ?_
          rotate_left
          · intro w'
            go_simp
            with_reducible rfl
          rotate_left
          · simp only [Act.put, List.setIfInBounds_toArray, List.set_cons_zero, List.set_cons_succ, i64_w, i32_w]
            rfl
          refine pure_ (i := 8) (N := some 46) (v := ?_) (a' := ?_) #[true, true, true, true, true, true, true, true, true, false, false, false, false, false, false, false] rfl rfl (any_of HT_.out (by kernel_rfl)) (fun _ _ _ h => h) (Or.inl ⟨by rfl, ?_⟩) ?_ ?_
          rotate_left
          · intro w'
            go_simp
            with_reducible rfl
          rotate_left
          · simp only [Act.put, List.setIfInBounds_toArray, List.set_cons_zero, List.set_cons_succ, i64_w, i32_w]
            rfl
          refine pure_ (i := 9) (N := some 47) (v := ?_) (a' := ?_) #[true, true, true, true, true, true, true, true, true, true, false, false, false, false, false, false] rfl rfl (any_of HT_.out (by kernel_rfl)) (fun _ _ _ h => h) (Or.inl ⟨by rfl, ?_⟩) ?_ ?_
          rotate_left
          · intro w'
            go_simp
            with_reducible rfl
          rotate_left
          · simp only [Act.put, List.setIfInBounds_toArray, List.set_cons_zero, List.set_cons_succ, i64_w, i32_w]
            rfl
          refine pure_ (i := 10) (N := some 48) (v := undef) (a' := ?_) #[true, true, true, true, true, true, true, true, true, true, true, false, false, false, false, false] rfl rfl (any_of HT_.out (by kernel_rfl)) (fun _ _ _ h => h) (Or.inr ⟨by rfl, rfl⟩) ?_ ?_
          rotate_left
          · simp only [Act.put, List.setIfInBounds_toArray, List.set_cons_zero, List.set_cons_succ, i64_w, i32_w]
            rfl
          refine pure_ (i := 11) (N := some 49) (v := undef) (a' := ?_) #[true, true, true, true, true, true, true, true, true, true, true, true, false, false, false, false] rfl rfl (any_of HT_.out (by kernel_rfl)) (fun _ _ _ h => h) (Or.inr ⟨by rfl, rfl⟩) ?_ ?_
          rotate_left
          · simp only [Act.put, List.setIfInBounds_toArray, List.set_cons_zero, List.set_cons_succ, i64_w, i32_w]
            rfl
          refine pure_ (i := 12) (N := some 50) (v := undef) (a' := ?_) #[true, true, true, true, true, true, true, true, true, true, true, true, true, false, false, false] rfl rfl (any_of HT_.out (by kernel_rfl)) (fun _ _ _ h => h) (Or.inr ⟨by rfl, rfl⟩) ?_ ?_
          rotate_left
          · simp only [Act.put, List.setIfInBounds_toArray, List.set_cons_zero, List.set_cons_succ, i64_w, i32_w]
            rfl
          refine pure_ (i := 13) (N := some 51) (v := undef) (a' := ?_) #[true, true, true, true, true, true, true, true, true, true, true, true, true, true, false, false] rfl rfl (any_of HT_.out (by kernel_rfl)) (fun _ _ _ h => h) (Or.inr ⟨by rfl, rfl⟩) ?_ ?_
          rotate_left
          · simp only [Act.put, List.setIfInBounds_toArray, List.set_cons_zero, List.set_cons_succ, i64_w, i32_w]
            rfl
          refine pure_ (i := 14) (N := some 52) (v := undef) (a' := ?_) #[true, true, true, true, true, true, true, true, true, true, true, true, true, true, true, false] rfl rfl (any_of HT_.out (by kernel_rfl)) (fun _ _ _ h => h) (Or.inr ⟨by rfl, rfl⟩) ?_ ?_
          rotate_left
          · simp only [Act.put, List.setIfInBounds_toArray, List.set_cons_zero, List.set_cons_succ, i64_w, i32_w]
            rfl
          refine pure_ (i := 15) (N := some 53) (v := ?_) (a' := ?_) #[true, true, true, true, true, true, true, true, true, true, true, true, true, true, true, true] rfl rfl (any_of HT_.out (by kernel_rfl)) (fun _ _ _ h => h) (Or.inl ⟨by rfl, ?_⟩) ?_ ?_
          rotate_left
          · intro w'
            go_simp
            with_reducible rfl
          rotate_left
          · simp only [Act.put, List.setIfInBounds_toArray, List.set_cons_zero, List.set_cons_succ, i64_w, i32_w]
            rfl
          refine done_ (done_of HT_.out (by kernel_rfl)) ?_
          try go_wp2
          go_meet
          case rel => exact ⟨_, (true), (by first | rfl | (simp; done) | (simp [*]; done)), H', ⟨by have := HJ3.out; first | omega | exact Nat.le_refl _⟩, ⟨by (with_reducible repeat (first | apply nA | apply nD | apply n1x)); exact HO361.out⟩, ⟨by (with_reducible repeat (first | apply nA | apply nD | apply n1x)); exact HO364.out⟩, ⟨by (with_reducible repeat (first | apply rA | apply rD | apply r1x)); exact HO367.out⟩, ⟨by (with_reducible repeat (first | apply rA | apply rD | apply r1x)); exact HO375.out⟩, ⟨by (with_reducible repeat (first | apply rA | apply rD | apply r1x)); exact HO383.out⟩, ⟨by (with_reducible repeat (first | refine kD ?_ _ | refine k1_ ?_ | refine kA ?_ _)); exact BK355.out⟩, ⟨by (with_reducible repeat (first | refine kD ?_ _ | refine k1_ ?_ | refine kA ?_ _)); exact BK370.out⟩, ⟨by (with_reducible repeat (first | refine kD ?_ _ | refine k1_ ?_ | refine kA ?_ _)); exact BK378.out⟩, ⟨by (with_reducible repeat (first | refine kD ?_ _ | refine k1_ ?_ | refine kA ?_ _)); exact BK386.out⟩, ⟨by repeat (first | (with_reducible first | exact HB.out | apply bA | apply bD | apply b1 | refine bS ?_ GE355.out | refine bS ?_ GE370.out | refine bS ?_ GE378.out | refine bS ?_ GE386.out) | exact HB.out)⟩⟩
        rw [if_pos c45] at H
        have c45b0 : (t376 == t384) = true := beq_iff_eq.mpr c45
        have c45b1 : (t376 != t384) = false := bne_eq_false_iff_eq.mpr c45
        clear c45
        replace H := Option.bind_eq_some_iff.mp H
        obtain ⟨t387, A460, H⟩ := H
        replace H : ((keep_Check.f kj3 t359 t362 t365 t368 t369).bind fun t388 => (stipendlaw10_KeepOrder.j1 kj3 (t387 != t388) l0_0 l0_1 l0_2 a0_3 a0_4 t359 t362 t365 t368 t369 t371 t372 t373 t376)) = some r := H
        have A46 := AM A460
        clear A460
        replace H := Option.bind_eq_some_iff.mp H
        obtain ⟨t388, A470, H⟩ := H
        replace H : (stipendlaw10_KeepOrder.j1 kj3 (t387 != t388) l0_0 l0_1 l0_2 a0_3 a0_4 t359 t362 t365 t368 t369 t371 t372 t373 t376) = some r := H
        have A47 := AM A470
        clear A470
        have H' := AM H
        clear H
        try go_wp2
        have n0_ : Aside0 (Kd.N (Kd.slice 41 k41) 39 ((((w38.setCell ⟨gb386, 0, none⟩ (.int .i64 t379)).setCell ⟨gb386, 1, none⟩ (.int .i64 t380)).setCell ⟨gb386, 2, none⟩ (.slice Ao43 t381.length co43)).setCell ⟨gb386, 3, none⟩ (.int .i64 t384)) w.heap.size (fun k_ => some k_ ≠ (.slice Ao27 t362.length co27 : Value).ownBlock ∧ some k_ ≠ (.slice Ao28 t365.length co28 : Value).ownBlock ∧ some k_ ≠ (.slice Ao35 t373.length co35 : Value).ownBlock ∧ some k_ ≠ (.slice Ao43 t381.length co43 : Value).ownBlock ∧ k_ ≠ gb355 ∧ k_ ≠ gb370 ∧ k_ ≠ gb378 ∧ k_ ≠ gb386) (.slice Ao24 t359.length co24) t359) := ⟨by (with_reducible repeat (first | apply nA | apply nD | apply n1x)); exact Kd.N_mono (Kd.N_far (p := ⟨gb386, 3, none⟩) (Kd.N_far (p := ⟨gb386, 2, none⟩) (Kd.N_far (p := ⟨gb386, 1, none⟩) (Kd.N_far (p := ⟨gb386, 0, none⟩) (Kd.N_mono HO361.out (fun k_ hk => (⟨hk, hk.2⟩ : _ ∧ k_ ≠ gb386))) (fun _ hk => hk.2) (.int .i64 t379)) (fun _ hk => hk.2) (.int .i64 t380)) (fun _ hk => hk.2) (.slice Ao43 t381.length co43)) (fun _ hk => hk.2) (.int .i64 t384)) (fun _ hk => ⟨hk.1.1.1.1.1.1.1, ⟨hk.1.1.1.1.1.1.2.1, ⟨hk.1.1.1.1.2, ⟨hk.1.1.2, ⟨hk.1.1.1.1.1.1.2.2, ⟨hk.1.1.1.1.1.2, ⟨hk.1.1.1.2, hk.1.2⟩⟩⟩⟩⟩⟩⟩)⟩
        have n1_ : Aside0 (Kd.N k43 43 ((((w38.setCell ⟨gb386, 0, none⟩ (.int .i64 t379)).setCell ⟨gb386, 1, none⟩ (.int .i64 t380)).setCell ⟨gb386, 2, none⟩ (.slice Ao43 t381.length co43)).setCell ⟨gb386, 3, none⟩ (.int .i64 t384)) w.heap.size (fun k_ => some k_ ≠ (.slice Ao24 t359.length co24 : Value).ownBlock ∧ some k_ ≠ (.slice Ao28 t365.length co28 : Value).ownBlock ∧ some k_ ≠ (.slice Ao35 t373.length co35 : Value).ownBlock ∧ some k_ ≠ (.slice Ao43 t381.length co43 : Value).ownBlock ∧ k_ ≠ gb355 ∧ k_ ≠ gb370 ∧ k_ ≠ gb378 ∧ k_ ≠ gb386) (.slice Ao27 t362.length co27) t362) := ⟨by (with_reducible repeat (first | apply nA | apply nD | apply n1x)); exact Kd.N_mono (Kd.N_far (p := ⟨gb386, 3, none⟩) (Kd.N_far (p := ⟨gb386, 2, none⟩) (Kd.N_far (p := ⟨gb386, 1, none⟩) (Kd.N_far (p := ⟨gb386, 0, none⟩) (Kd.N_mono HO364.out (fun k_ hk => (⟨hk, hk.2⟩ : _ ∧ k_ ≠ gb386))) (fun _ hk => hk.2) (.int .i64 t379)) (fun _ hk => hk.2) (.int .i64 t380)) (fun _ hk => hk.2) (.slice Ao43 t381.length co43)) (fun _ hk => hk.2) (.int .i64 t384)) (fun _ hk => ⟨hk.1.1.1.1.1.1.1, ⟨hk.1.1.1.1.1.1.2.1, ⟨hk.1.1.1.1.2, ⟨hk.1.1.2, ⟨hk.1.1.1.1.1.1.2.2, ⟨hk.1.1.1.1.1.2, ⟨hk.1.1.1.2, hk.1.2⟩⟩⟩⟩⟩⟩⟩)⟩
        have n2_ : Aside0 (Kd.R k58 58 ((((w38.setCell ⟨gb386, 0, none⟩ (.int .i64 t379)).setCell ⟨gb386, 1, none⟩ (.int .i64 t380)).setCell ⟨gb386, 2, none⟩ (.slice Ao43 t381.length co43)).setCell ⟨gb386, 3, none⟩ (.int .i64 t384)) w.heap.size (fun _ => True) (.slice Ao28 t365.length co28) t365) := ⟨by (with_reducible repeat (first | apply rA | apply rD | apply r1x)); exact Kd.R_mono (Kd.R_far (p := ⟨gb386, 3, none⟩) (Kd.R_far (p := ⟨gb386, 2, none⟩) (Kd.R_far (p := ⟨gb386, 1, none⟩) (Kd.R_far (p := ⟨gb386, 0, none⟩) (Kd.R_types HO367.out BK386.out (by decide)) (fun _ hk => hk.2) (.int .i64 t379)) (fun _ hk => hk.2) (.int .i64 t380)) (fun _ hk => hk.2) (.slice Ao43 t381.length co43)) (fun _ hk => hk.2) (.int .i64 t384)) (fun _ hk => trivial)⟩
        have n3_ : Aside0 (Kd.R (Kd.int .i64) 3 ((((w38.setCell ⟨gb386, 0, none⟩ (.int .i64 t379)).setCell ⟨gb386, 1, none⟩ (.int .i64 t380)).setCell ⟨gb386, 2, none⟩ (.slice Ao43 t381.length co43)).setCell ⟨gb386, 3, none⟩ (.int .i64 t384)) w.heap.size (fun k_ => some k_ ≠ (.slice Ao43 t381.length co43 : Value).ownBlock) (.slice Ao35 t373.length co35) t373) := ⟨by (with_reducible repeat (first | apply rA | apply rD | apply r1x)); exact Kd.R_mono (Kd.R_far (p := ⟨gb386, 3, none⟩) (Kd.R_far (p := ⟨gb386, 2, none⟩) (Kd.R_far (p := ⟨gb386, 1, none⟩) (Kd.R_far (p := ⟨gb386, 0, none⟩) (Kd.R_types HO375.out BK386.out (by decide)) (fun _ hk => hk.2) (.int .i64 t379)) (fun _ hk => hk.2) (.int .i64 t380)) (fun _ hk => hk.2) (.slice Ao43 t381.length co43)) (fun _ hk => hk.2) (.int .i64 t384)) (fun _ hk => hk.1.2)⟩
        have n4_ : Aside0 (Kd.R (Kd.int .i64) 3 ((((w38.setCell ⟨gb386, 0, none⟩ (.int .i64 t379)).setCell ⟨gb386, 1, none⟩ (.int .i64 t380)).setCell ⟨gb386, 2, none⟩ (.slice Ao43 t381.length co43)).setCell ⟨gb386, 3, none⟩ (.int .i64 t384)) w.heap.size (fun k_ => some k_ ≠ (.slice Ao35 t373.length co35 : Value).ownBlock) (.slice Ao43 t381.length co43) t381) := ⟨by (with_reducible repeat (first | apply rA | apply rD | apply r1x)); exact Kd.R_mono (Kd.R_far (p := ⟨gb386, 3, none⟩) (Kd.R_far (p := ⟨gb386, 2, none⟩) (Kd.R_far (p := ⟨gb386, 1, none⟩) (Kd.R_far (p := ⟨gb386, 0, none⟩) (Kd.R_types HO383.out BK386.out (by decide)) (fun _ hk => hk.2) (.int .i64 t379)) (fun _ hk => hk.2) (.int .i64 t380)) (fun _ hk => hk.2) (.slice Ao43 t381.length co43)) (fun _ hk => hk.2) (.int .i64 t384)) (fun _ hk => hk.1.2)⟩
        have n5_ : Aside0 (((((w38.setCell ⟨gb386, 0, none⟩ (.int .i64 t379)).setCell ⟨gb386, 1, none⟩ (.int .i64 t380)).setCell ⟨gb386, 2, none⟩ (.slice Ao43 t381.length co43)).setCell ⟨gb386, 3, none⟩ (.int .i64 t384)).heap[gb355]? = some (.cells #[.slice A0_0 l0_0.length c0_0, .slice A0_1 l0_1.length c0_1, .slice A0_2 l0_2.length c0_2, .int .i64 a0_3, .int .i64 a0_4] 26 (0, 0))) := ⟨by (with_reducible repeat (first | refine kD ?_ _ | refine k1_ ?_ | refine kA ?_ _)); refine kF ?_ NB355_386.out _; (with_reducible repeat (first | refine kD ?_ _ | refine k1_ ?_ | refine kA ?_ _)); refine kF ?_ NB355_386.out _; (with_reducible repeat (first | refine kD ?_ _ | refine k1_ ?_ | refine kA ?_ _)); refine kF ?_ NB355_386.out _; (with_reducible repeat (first | refine kD ?_ _ | refine k1_ ?_ | refine kA ?_ _)); refine kF ?_ NB355_386.out _; (with_reducible repeat (first | refine kD ?_ _ | refine k1_ ?_ | refine kA ?_ _)); exact BK355.out⟩
        have n6_ : Aside0 (((((w38.setCell ⟨gb386, 0, none⟩ (.int .i64 t379)).setCell ⟨gb386, 1, none⟩ (.int .i64 t380)).setCell ⟨gb386, 2, none⟩ (.slice Ao43 t381.length co43)).setCell ⟨gb386, 3, none⟩ (.int .i64 t384)).heap[gb370]? = some (.cells #[.slice Ao24 t359.length co24, .slice Ao27 t362.length co27, .slice Ao28 t365.length co28, .int .i64 t368, .int .i64 t369] 26 (0, 0))) := ⟨by (with_reducible repeat (first | refine kD ?_ _ | refine k1_ ?_ | refine kA ?_ _)); refine kF ?_ NB370_386.out _; (with_reducible repeat (first | refine kD ?_ _ | refine k1_ ?_ | refine kA ?_ _)); refine kF ?_ NB370_386.out _; (with_reducible repeat (first | refine kD ?_ _ | refine k1_ ?_ | refine kA ?_ _)); refine kF ?_ NB370_386.out _; (with_reducible repeat (first | refine kD ?_ _ | refine k1_ ?_ | refine kA ?_ _)); refine kF ?_ NB370_386.out _; (with_reducible repeat (first | refine kD ?_ _ | refine k1_ ?_ | refine kA ?_ _)); exact BK370.out⟩
        have n7_ : Aside0 (((((w38.setCell ⟨gb386, 0, none⟩ (.int .i64 t379)).setCell ⟨gb386, 1, none⟩ (.int .i64 t380)).setCell ⟨gb386, 2, none⟩ (.slice Ao43 t381.length co43)).setCell ⟨gb386, 3, none⟩ (.int .i64 t384)).heap[gb378]? = some (.cells #[.int .i64 t371, .int .i64 t372, .slice Ao35 t373.length co35, .int .i64 t376] 33 (0, 0))) := ⟨by (with_reducible repeat (first | refine kD ?_ _ | refine k1_ ?_ | refine kA ?_ _)); refine kF ?_ NB378_386.out _; (with_reducible repeat (first | refine kD ?_ _ | refine k1_ ?_ | refine kA ?_ _)); refine kF ?_ NB378_386.out _; (with_reducible repeat (first | refine kD ?_ _ | refine k1_ ?_ | refine kA ?_ _)); refine kF ?_ NB378_386.out _; (with_reducible repeat (first | refine kD ?_ _ | refine k1_ ?_ | refine kA ?_ _)); refine kF ?_ NB378_386.out _; (with_reducible repeat (first | refine kD ?_ _ | refine k1_ ?_ | refine kA ?_ _)); exact BK378.out⟩
        have n8_ : Aside0 (((((w38.setCell ⟨gb386, 0, none⟩ (.int .i64 t379)).setCell ⟨gb386, 1, none⟩ (.int .i64 t380)).setCell ⟨gb386, 2, none⟩ (.slice Ao43 t381.length co43)).setCell ⟨gb386, 3, none⟩ (.int .i64 t384)).heap[gb386]? = some (.cells #[.int .i64 t379, .int .i64 t380, .slice Ao43 t381.length co43, .int .i64 t384] 33 (0, 0))) := ⟨by (with_reducible repeat (first | refine kD ?_ _ | refine k1_ ?_ | refine kA ?_ _)); refine kP (cs := #[.int .i64 t379, .int .i64 t380, .slice Ao43 t381.length co43, .int .i64 0]) ?_ 3 _ rfl; (with_reducible repeat (first | refine kD ?_ _ | refine k1_ ?_ | refine kA ?_ _)); refine kP (cs := #[.int .i64 t379, .int .i64 t380, .slice none 0 0, .int .i64 0]) ?_ 2 _ rfl; (with_reducible repeat (first | refine kD ?_ _ | refine k1_ ?_ | refine kA ?_ _)); refine kP (cs := #[.int .i64 t379, .int .i64 0, .slice none 0 0, .int .i64 0]) ?_ 1 _ rfl; (with_reducible repeat (first | refine kD ?_ _ | refine k1_ ?_ | refine kA ?_ _)); refine kP (cs := #[.int .i64 0, .int .i64 0, .slice none 0 0, .int .i64 0]) ?_ 0 _ rfl; (with_reducible repeat (first | refine kD ?_ _ | refine k1_ ?_ | refine kA ?_ _)); exact BK386.out⟩
        have n9_ : Aside0 (Below w.heap.size w ((((w38.setCell ⟨gb386, 0, none⟩ (.int .i64 t379)).setCell ⟨gb386, 1, none⟩ (.int .i64 t380)).setCell ⟨gb386, 2, none⟩ (.slice Ao43 t381.length co43)).setCell ⟨gb386, 3, none⟩ (.int .i64 t384))) := ⟨by repeat (first | (with_reducible first | exact HB.out | apply bA | apply bD | apply b1 | refine bS ?_ GE355.out | refine bS ?_ GE370.out | refine bS ?_ GE378.out | refine bS ?_ GE386.out) | exact HB.out)⟩
        (try clear HO361)
        (try clear HO364)
        (try clear HO367)
        (try clear HO375)
        (try clear HO383)
        (try clear BK355)
        (try clear BK370)
        (try clear BK378)
        (try clear BK386)
        (try clear HB)
        generalize ((((w38.setCell ⟨gb386, 0, none⟩ (.int .i64 t379)).setCell ⟨gb386, 1, none⟩ (.int .i64 t380)).setCell ⟨gb386, 2, none⟩ (.slice Ao43 t381.length co43)).setCell ⟨gb386, 3, none⟩ (.int .i64 t384)) = w48 at n0_ n1_ n2_ n3_ n4_ n5_ n6_ n7_ n8_ n9_ ⊢
        have HO361 := n0_
        have HO364 := n1_
        have HO367 := n2_
        have HO375 := n3_
        have HO383 := n4_
        have BK355 := n5_
        have BK370 := n6_
        have BK378 := n7_
        have BK386 := n8_
        have HB := n9_
        clear n0_ n1_ n2_ n3_ n4_ n5_ n6_ n7_ n8_ n9_
        have n0_ := AM (n1x HO361.out)
        have n1_ := AM (n1x HO364.out)
        have n2_ := AM (r1x HO367.out)
        have n3_ := AM (r1x HO375.out)
        have n4_ := AM (r1x HO383.out)
        have n5_ := AM (k1_ BK355.out)
        have n6_ := AM (k1_ BK370.out)
        have n7_ := AM (k1_ BK378.out)
        have n8_ := AM (k1_ BK386.out)
        have n9_ := AM (b1 HB.out)
        clear HO361
        clear HO364
        clear HO367
        clear HO375
        clear HO383
        clear BK355
        clear BK370
        clear BK378
        clear BK386
        clear HB
        have HO361 := n0_
        have HO364 := n1_
        have HO367 := n2_
        have HO375 := n3_
        have HO383 := n4_
        have BK355 := n5_
        have BK370 := n6_
        have BK378 := n7_
        have BK386 := n8_
        have HB := n9_
        clear n0_ n1_ n2_ n3_ n4_ n5_ n6_ n7_ n8_ n9_
        refine start_ (n := 16) (S := fun w' => w'.cell? ⟨gb378, 0, none⟩ = some (.int .i64 t371) ∧ w'.cell? ⟨gb378, 1, none⟩ = some (.int .i64 t372) ∧ w'.cell? ⟨gb378, 2, none⟩ = some (.slice Ao35 t373.length co35) ∧ w'.cell? ⟨gb378, 3, none⟩ = some (.int .i64 t376) ∧ w'.cell? ⟨gb386, 0, none⟩ = some (.int .i64 t379) ∧ w'.cell? ⟨gb386, 1, none⟩ = some (.int .i64 t380) ∧ w'.cell? ⟨gb386, 2, none⟩ = some (.slice Ao43 t381.length co43) ∧ w'.cell? ⟨gb386, 3, none⟩ = some (.int .i64 t384) ∧ w'.cell? ⟨gb355, 0, none⟩ = some (.slice A0_0 l0_0.length c0_0) ∧ w'.cell? ⟨gb355, 1, none⟩ = some (.slice A0_1 l0_1.length c0_1) ∧ w'.cell? ⟨gb355, 2, none⟩ = some (.slice A0_2 l0_2.length c0_2) ∧ w'.cell? ⟨gb355, 3, none⟩ = some (.int .i64 a0_3) ∧ w'.cell? ⟨gb355, 4, none⟩ = some (.int .i64 a0_4) ∧ w'.cell? ⟨gb370, 0, none⟩ = some (.slice Ao24 t359.length co24) ∧ w'.cell? ⟨gb370, 1, none⟩ = some (.slice Ao27 t362.length co27) ∧ w'.cell? ⟨gb370, 2, none⟩ = some (.slice Ao28 t365.length co28) ∧ w'.cell? ⟨gb370, 3, none⟩ = some (.int .i64 t368) ∧ w'.cell? ⟨gb370, 4, none⟩ = some (.int .i64 t369)) (ds := []) #[false, false, false, false, false, false, false, false, false, false, false, false, false, false, false, false] (by kernel_rfl) rfl rfl ⟨(bC BK378.out 0).trans rfl, (bC BK378.out 1).trans rfl, (bC BK378.out 2).trans rfl, (bC BK378.out 3).trans rfl, (bC BK386.out 0).trans rfl, (bC BK386.out 1).trans rfl, (bC BK386.out 2).trans rfl, (bC BK386.out 3).trans rfl, (bC BK355.out 0).trans rfl, (bC BK355.out 1).trans rfl, (bC BK355.out 2).trans rfl, (bC BK355.out 3).trans rfl, (bC BK355.out 4).trans rfl, (bC BK370.out 0).trans rfl, (bC BK370.out 1).trans rfl, (bC BK370.out 2).trans rfl, (bC BK370.out 3).trans rfl, (bC BK370.out 4).trans rfl⟩ (fun hHeld => ?_); refine with_tabW stipendlaw10_KeepOrder.tab10 stipendlaw10_KeepOrder.bits10 (fun HT_ HW_ => ?_)
        generalize w48.drew = w49 at HO361 HO364 HO367 HO375 HO383 BK355 BK370 BK378 BK386 HB hHeld ⊢
        refine pure_ (i := 0) (N := some 38) (v := ?_) (a' := ?_) #[true, false, false, false, false, false, false, false, false, false, false, false, false, false, false, false] rfl rfl (any_of HT_.out (by kernel_rfl)) (fun _ _ _ h => h) (Or.inl ⟨by rfl, ?_⟩) ?_ ?_
        rotate_left
        · intro w'
          go_simp
          with_reducible rfl
        rotate_left
        · simp only [Act.put, List.setIfInBounds_toArray, List.set_cons_zero, List.set_cons_succ, i64_w, i32_w]
          rfl
        refine pure_ (i := 1) (N := some 39) (v := ?_) (a' := ?_) #[true, true, false, false, false, false, false, false, false, false, false, false, false, false, false, false] rfl rfl (any_of HT_.out (by kernel_rfl)) (fun _ _ _ h => h) (Or.inl ⟨by rfl, ?_⟩) ?_ ?_
        rotate_left
        · intro w'
          go_simp
          with_reducible rfl
        rotate_left
        · simp only [Act.put, List.setIfInBounds_toArray, List.set_cons_zero, List.set_cons_succ, i64_w, i32_w]
          rfl
        refine pure_ (i := 2) (N := some 40) (v := ?_) (a' := ?_) #[true, true, true, false, false, false, false, false, false, false, false, false, false, false, false, false] rfl rfl (any_of HT_.out (by kernel_rfl)) (fun _ _ _ h => h) (Or.inl ⟨by rfl, ?_⟩) ?_ ?_
        rotate_left
        · intro w'
          go_simp
          with_reducible rfl
        rotate_left
        · simp only [Act.put, List.setIfInBounds_toArray, List.set_cons_zero, List.set_cons_succ, i64_w, i32_w]
          rfl
        refine pure_ (i := 3) (N := some 41) (v := ?_) (a' := ?_) #[true, true, true, true, false, false, false, false, false, false, false, false, false, false, false, false] rfl rfl (any_of HT_.out (by kernel_rfl)) (fun _ _ _ h => h) (Or.inl ⟨by rfl, ?_⟩) ?_ ?_
        rotate_left
        · intro w'
          go_simp
          with_reducible rfl
        rotate_left
        · simp only [Act.put, List.setIfInBounds_toArray, List.set_cons_zero, List.set_cons_succ, i64_w, i32_w]
          rfl
        refine pure_ (i := 5) (N := some 43) (v := ?_) (a' := ?_) #[true, true, true, true, false, true, false, false, false, false, false, false, false, false, false, false] rfl rfl (any_of HT_.out (by kernel_rfl)) (fun _ _ _ h => h) (Or.inl ⟨by rfl, ?_⟩) ?_ ?_
        rotate_left
        · intro w'
          go_simp
          with_reducible rfl
        rotate_left
        · simp only [Act.put, List.setIfInBounds_toArray, List.set_cons_zero, List.set_cons_succ, i64_w, i32_w]
          rfl
        refine take_ (i := 4) (N := some 42) (v := ?_) (a' := ?_) #[true, true, true, true, true, true, false, false, false, false, false, false, false, false, false, false] rfl rfl (take_ofW HT_.out HW_.out (by kernel_rfl)) (fun _ _ _ h => h) (Or.inl ⟨by rfl, ?_⟩) hHeld ?_ ?_
        rotate_left
        · rintro w' ⟨s0, s1, s2, s3, s4, s5, s6, s7, s8, s9, s10, s11, s12, s13, s14, s15, s16, s17⟩
          go_simp
          with_reducible rfl
        rotate_left
        · simp only [Act.put, List.setIfInBounds_toArray, List.set_cons_zero, List.set_cons_succ, i64_w, i32_w]
          rfl
        refine take_ (i := 6) (N := some 44) (v := ?_) (a' := ?_) #[true, true, true, true, true, true, true, false, false, false, false, false, false, false, false, false] rfl rfl (take_ofW HT_.out HW_.out (by kernel_rfl)) (fun _ _ _ h => h) (Or.inl ⟨by rfl, ?_⟩) hHeld ?_ ?_
        rotate_left
        · rintro w' ⟨s0, s1, s2, s3, s4, s5, s6, s7, s8, s9, s10, s11, s12, s13, s14, s15, s16, s17⟩
          go_simp
          with_reducible rfl
        rotate_left
        · simp only [Act.put, List.setIfInBounds_toArray, List.set_cons_zero, List.set_cons_succ, i64_w, i32_w]
          rfl
        refine pure_ (i := 7) (N := some 45) (v := ?_) (a' := ?_) #[true, true, true, true, true, true, true, true, false, false, false, false, false, false, false, false] rfl rfl (any_of HT_.out (by kernel_rfl)) (fun _ _ _ h => h) (Or.inl ⟨by rfl, ?_⟩) ?_ ?_
        rotate_left
        · intro w'
          go_simp
          with_reducible rfl
        rotate_left
        · simp only [Act.put, List.setIfInBounds_toArray, List.set_cons_zero, List.set_cons_succ, i64_w, i32_w]
          rfl
        refine pure_ (i := 8) (N := some 46) (v := ?_) (a' := ?_) #[true, true, true, true, true, true, true, true, true, false, false, false, false, false, false, false] rfl rfl (any_of HT_.out (by kernel_rfl)) (fun _ _ _ h => h) (Or.inl ⟨by rfl, ?_⟩) ?_ ?_
        rotate_left
        · intro w'
          go_simp
          with_reducible rfl
        rotate_left
        · simp only [Act.put, List.setIfInBounds_toArray, List.set_cons_zero, List.set_cons_succ, i64_w, i32_w]
          rfl
        refine pure_ (i := 9) (N := some 47) (v := ?_) (a' := ?_) #[true, true, true, true, true, true, true, true, true, true, false, false, false, false, false, false] rfl rfl (any_of HT_.out (by kernel_rfl)) (fun _ _ _ h => h) (Or.inl ⟨by rfl, ?_⟩) ?_ ?_
        rotate_left
        · intro w'
          go_simp
          with_reducible rfl
        rotate_left
        · simp only [Act.put, List.setIfInBounds_toArray, List.set_cons_zero, List.set_cons_succ, i64_w, i32_w]
          rfl
        refine take_ (i := 10) (N := some 48) (v := ?_) (a' := ?_) #[true, true, true, true, true, true, true, true, true, true, true, false, false, false, false, false] rfl rfl (take_ofW HT_.out HW_.out (by kernel_rfl)) (fun _ _ _ h => h) (Or.inl ⟨by rfl, ?_⟩) hHeld ?_ ?_
        rotate_left
        · rintro w' ⟨s0, s1, s2, s3, s4, s5, s6, s7, s8, s9, s10, s11, s12, s13, s14, s15, s16, s17⟩
          go_simp
          with_reducible rfl
        rotate_left
        · simp only [Act.put, List.setIfInBounds_toArray, List.set_cons_zero, List.set_cons_succ, i64_w, i32_w]
          rfl
        refine take_ (i := 12) (N := some 50) (v := ?_) (a' := ?_) #[true, true, true, true, true, true, true, true, true, true, true, false, true, false, false, false] rfl rfl (take_ofW HT_.out HW_.out (by kernel_rfl)) (fun _ _ _ h => h) (Or.inl ⟨by rfl, ?_⟩) hHeld ?_ ?_
        rotate_left
        · rintro w' ⟨s0, s1, s2, s3, s4, s5, s6, s7, s8, s9, s10, s11, s12, s13, s14, s15, s16, s17⟩
          go_simp
          with_reducible rfl
        rotate_left
        · simp only [Act.put, List.setIfInBounds_toArray, List.set_cons_zero, List.set_cons_succ, i64_w, i32_w]
          rfl
        refine one_ (i := 11) (N := some 49) #[true, true, true, true, true, true, true, true, true, true, true, true, true, false, false, false] rfl rfl (one_of HT_.out (by kernel_rfl)) (by decide) (fun K hK => ?_)
        refine goes_ Try.func9 (by kernel_rfl) rfl #[.agg #[.slice A0_0 l0_0.length c0_0, .slice A0_1 l0_1.length c0_1, .slice A0_2 l0_2.length c0_2, .int .i64 a0_3, .int .i64 a0_4]] (by rfl) rfl rfl (by (try simp only [List.map_toArray, List.map_cons, List.map_nil]); first | done | rfl | (simp only [List.length_drop, List.length_take]; rfl)) ?_
        with_reducible refine (keep_Check.calls kj3 _ _ l0_0 _ _ l0_1 _ _ l0_2 a0_3 a0_4 t387 _ ?side1 ?side2 ?side3 ?side4 ?side5 ?side6 A46.out).mono ?_
        (case side1 => repeat (first | exact (cB HR0_0.out HB.out) | (with_reducible refine cA ?_ _) | (with_reducible refine cD ?_ _) | (with_reducible refine c1_ ?_)))
        (case side2 => exact HC0_0.out)
        (case side3 => repeat (first | exact (cB HR0_1.out HB.out) | (with_reducible refine cA ?_ _) | (with_reducible refine cD ?_ _) | (with_reducible refine c1_ ?_)))
        (case side4 => exact HC0_1.out)
        (case side5 => repeat (first | exact (cB HR0_2.out HB.out) | (with_reducible refine cA ?_ _) | (with_reducible refine cD ?_ _) | (with_reducible refine c1_ ?_)))
        (case side6 => exact HC0_2.out)
        rintro e w50 ⟨rfl, hb⟩
        refine ⟨_, rfl, ?_⟩
        have n0_ := AM (Kd.N_below (by (with_reducible repeat (first | apply nA | apply nD | apply n1x)); exact HO361.out) hb)
        have n1_ := AM (Kd.N_below (by (with_reducible repeat (first | apply nA | apply nD | apply n1x)); exact HO364.out) hb)
        have n2_ := AM (Kd.R_below (by (with_reducible repeat (first | apply rA | apply rD | apply r1x)); exact HO367.out) hb)
        have n3_ := AM (Kd.R_below (by (with_reducible repeat (first | apply rA | apply rD | apply r1x)); exact HO375.out) hb)
        have n4_ := AM (Kd.R_below (by (with_reducible repeat (first | apply rA | apply rD | apply r1x)); exact HO383.out) hb)
        have n5_ := AM (kB (g := gb355) (o := .cells #[.slice A0_0 l0_0.length c0_0, .slice A0_1 l0_1.length c0_1, .slice A0_2 l0_2.length c0_2, .int .i64 a0_3, .int .i64 a0_4] 26 (0, 0)) (by (with_reducible repeat (first | refine kD ?_ _ | refine k1_ ?_ | refine kA ?_ _)); exact BK355.out) hb)
        have n6_ := AM (kB (g := gb370) (o := .cells #[.slice Ao24 t359.length co24, .slice Ao27 t362.length co27, .slice Ao28 t365.length co28, .int .i64 t368, .int .i64 t369] 26 (0, 0)) (by (with_reducible repeat (first | refine kD ?_ _ | refine k1_ ?_ | refine kA ?_ _)); exact BK370.out) hb)
        have n7_ := AM (kB (g := gb378) (o := .cells #[.int .i64 t371, .int .i64 t372, .slice Ao35 t373.length co35, .int .i64 t376] 33 (0, 0)) (by (with_reducible repeat (first | refine kD ?_ _ | refine k1_ ?_ | refine kA ?_ _)); exact BK378.out) hb)
        have n8_ := AM (kB (g := gb386) (o := .cells #[.int .i64 t379, .int .i64 t380, .slice Ao43 t381.length co43, .int .i64 t384] 33 (0, 0)) (by (with_reducible repeat (first | refine kD ?_ _ | refine k1_ ?_ | refine kA ?_ _)); exact BK386.out) hb)
        have n9_ := AM (bT (by repeat (first | (with_reducible first | exact HB.out | apply bA | apply bD | apply b1 | refine bS ?_ GE355.out | refine bS ?_ GE370.out | refine bS ?_ GE378.out | refine bS ?_ GE386.out) | exact HB.out)) hb)
        clear HO361
        clear HO364
        clear HO367
        clear HO375
        clear HO383
        clear BK355
        clear BK370
        clear BK378
        clear BK386
        clear HB
        have HO361 := n0_
        have HO364 := n1_
        have HO367 := n2_
        have HO375 := n3_
        have HO383 := n4_
        have BK355 := n5_
        have BK370 := n6_
        have BK378 := n7_
        have BK386 := n8_
        have HB := n9_
        clear n0_ n1_ n2_ n3_ n4_ n5_ n6_ n7_ n8_ n9_
        (try clear hb)
        (try clear hb2)
        (try clear hk)
        (try clear hi)
        refine hK.out _ _ ⟨(bC BK378.out 0).trans rfl, (bC BK378.out 1).trans rfl, (bC BK378.out 2).trans rfl, (bC BK378.out 3).trans rfl, (bC BK386.out 0).trans rfl, (bC BK386.out 1).trans rfl, (bC BK386.out 2).trans rfl, (bC BK386.out 3).trans rfl, (bC BK355.out 0).trans rfl, (bC BK355.out 1).trans rfl, (bC BK355.out 2).trans rfl, (bC BK355.out 3).trans rfl, (bC BK355.out 4).trans rfl, (bC BK370.out 0).trans rfl, (bC BK370.out 1).trans rfl, (bC BK370.out 2).trans rfl, (bC BK370.out 3).trans rfl, (bC BK370.out 4).trans rfl⟩ (fun hHeld => ?_)
        clear hK K
        refine norm_ (a' := ?_) ?_ ?_
        rotate_left
        · show Act.put _ (some 49) _ = _
          simp only [Act.put, List.setIfInBounds_toArray, List.set_cons_zero, List.set_cons_succ, i64_w, i32_w]
          rfl
        refine one_ (i := 13) (N := some 51) #[true, true, true, true, true, true, true, true, true, true, true, true, true, true, false, false] rfl rfl (one_of HT_.out (by kernel_rfl)) (by decide) (fun K hK => ?_)
        refine goes_ Try.func9 (by kernel_rfl) rfl #[.agg #[.slice Ao24 t359.length co24, .slice Ao27 t362.length co27, .slice Ao28 t365.length co28, .int .i64 t368, .int .i64 t369]] (by rfl) rfl rfl (by (try simp only [List.map_toArray, List.map_cons, List.map_nil]); first | done | rfl | (simp only [List.length_drop, List.length_take]; rfl)) ?_
        with_reducible refine (keep_Check.calls kj3 _ _ t359 _ _ t362 _ _ t365 t368 t369 t388 _ ?side1 ?side2 ?side3 ?side4 ?side5 ?side6 A47.out).mono ?_
        (case side1 => repeat (first | exact (Kd.N_reads' HO361.out).2.2 | (with_reducible refine cA ?_ _) | (with_reducible refine cD ?_ _) | (with_reducible refine c1_ ?_)))
        (case side2 => exact (Kd.N_reads' HO361.out).2.1)
        (case side3 => repeat (first | exact (Kd.N_reads' HO364.out).2.2 | (with_reducible refine cA ?_ _) | (with_reducible refine cD ?_ _) | (with_reducible refine c1_ ?_)))
        (case side4 => exact (Kd.N_reads' HO364.out).2.1)
        (case side5 => repeat (first | exact (Kd.R_reads' HO367.out).2.2 | (with_reducible refine cA ?_ _) | (with_reducible refine cD ?_ _) | (with_reducible refine c1_ ?_)))
        (case side6 => exact (Kd.R_reads' HO367.out).2.1)
        rintro e w51 ⟨rfl, hb⟩
        refine ⟨_, rfl, ?_⟩
        have n0_ := AM (Kd.N_below (by (with_reducible repeat (first | apply nA | apply nD | apply n1x)); exact HO361.out) hb)
        have n1_ := AM (Kd.N_below (by (with_reducible repeat (first | apply nA | apply nD | apply n1x)); exact HO364.out) hb)
        have n2_ := AM (Kd.R_below (by (with_reducible repeat (first | apply rA | apply rD | apply r1x)); exact HO367.out) hb)
        have n3_ := AM (Kd.R_below (by (with_reducible repeat (first | apply rA | apply rD | apply r1x)); exact HO375.out) hb)
        have n4_ := AM (Kd.R_below (by (with_reducible repeat (first | apply rA | apply rD | apply r1x)); exact HO383.out) hb)
        have n5_ := AM (kB (g := gb355) (o := .cells #[.slice A0_0 l0_0.length c0_0, .slice A0_1 l0_1.length c0_1, .slice A0_2 l0_2.length c0_2, .int .i64 a0_3, .int .i64 a0_4] 26 (0, 0)) (by (with_reducible repeat (first | refine kD ?_ _ | refine k1_ ?_ | refine kA ?_ _)); exact BK355.out) hb)
        have n6_ := AM (kB (g := gb370) (o := .cells #[.slice Ao24 t359.length co24, .slice Ao27 t362.length co27, .slice Ao28 t365.length co28, .int .i64 t368, .int .i64 t369] 26 (0, 0)) (by (with_reducible repeat (first | refine kD ?_ _ | refine k1_ ?_ | refine kA ?_ _)); exact BK370.out) hb)
        have n7_ := AM (kB (g := gb378) (o := .cells #[.int .i64 t371, .int .i64 t372, .slice Ao35 t373.length co35, .int .i64 t376] 33 (0, 0)) (by (with_reducible repeat (first | refine kD ?_ _ | refine k1_ ?_ | refine kA ?_ _)); exact BK378.out) hb)
        have n8_ := AM (kB (g := gb386) (o := .cells #[.int .i64 t379, .int .i64 t380, .slice Ao43 t381.length co43, .int .i64 t384] 33 (0, 0)) (by (with_reducible repeat (first | refine kD ?_ _ | refine k1_ ?_ | refine kA ?_ _)); exact BK386.out) hb)
        have n9_ := AM (bT (by repeat (first | (with_reducible first | exact HB.out | apply bA | apply bD | apply b1 | refine bS ?_ GE355.out | refine bS ?_ GE370.out | refine bS ?_ GE378.out | refine bS ?_ GE386.out) | exact HB.out)) hb)
        clear HO361
        clear HO364
        clear HO367
        clear HO375
        clear HO383
        clear BK355
        clear BK370
        clear BK378
        clear BK386
        clear HB
        have HO361 := n0_
        have HO364 := n1_
        have HO367 := n2_
        have HO375 := n3_
        have HO383 := n4_
        have BK355 := n5_
        have BK370 := n6_
        have BK378 := n7_
        have BK386 := n8_
        have HB := n9_
        clear n0_ n1_ n2_ n3_ n4_ n5_ n6_ n7_ n8_ n9_
        (try clear hb)
        (try clear hb2)
        (try clear hk)
        (try clear hi)
        refine hK.out _ _ ⟨(bC BK378.out 0).trans rfl, (bC BK378.out 1).trans rfl, (bC BK378.out 2).trans rfl, (bC BK378.out 3).trans rfl, (bC BK386.out 0).trans rfl, (bC BK386.out 1).trans rfl, (bC BK386.out 2).trans rfl, (bC BK386.out 3).trans rfl, (bC BK355.out 0).trans rfl, (bC BK355.out 1).trans rfl, (bC BK355.out 2).trans rfl, (bC BK355.out 3).trans rfl, (bC BK355.out 4).trans rfl, (bC BK370.out 0).trans rfl, (bC BK370.out 1).trans rfl, (bC BK370.out 2).trans rfl, (bC BK370.out 3).trans rfl, (bC BK370.out 4).trans rfl⟩ (fun hHeld => ?_)
        clear hK K
        refine norm_ (a' := ?_) ?_ ?_
        rotate_left
        · show Act.put _ (some 51) _ = _
          simp only [Act.put, List.setIfInBounds_toArray, List.set_cons_zero, List.set_cons_succ, i64_w, i32_w]
          rfl
        refine pure_ (i := 14) (N := some 52) (v := ?_) (a' := ?_) #[true, true, true, true, true, true, true, true, true, true, true, true, true, true, true, false] rfl rfl (any_of HT_.out (by kernel_rfl)) (fun _ _ _ h => h) (Or.inl ⟨by rfl, ?_⟩) ?_ ?_
        rotate_left
        · intro w'
          go_simp
          with_reducible rfl
        rotate_left
        · simp only [Act.put, List.setIfInBounds_toArray, List.set_cons_zero, List.set_cons_succ, i64_w, i32_w]
          rfl
        refine pure_ (i := 15) (N := some 53) (v := ?_) (a' := ?_) #[true, true, true, true, true, true, true, true, true, true, true, true, true, true, true, true] rfl rfl (any_of HT_.out (by kernel_rfl)) (fun _ _ _ h => h) (Or.inl ⟨by rfl, ?_⟩) ?_ ?_
        rotate_left
        · intro w'
          go_simp
          with_reducible rfl
        rotate_left
        · simp only [Act.put, List.setIfInBounds_toArray, List.set_cons_zero, List.set_cons_succ, i64_w, i32_w]
          rfl
        refine done_ (done_of HT_.out (by kernel_rfl)) ?_
        try go_wp2
        go_meet
        case rel => exact ⟨_, ((t387 != t388)), (by first | rfl | (simp; done) | (simp [*]; done)), H', ⟨by have := HJ3.out; first | omega | exact Nat.le_refl _⟩, ⟨by (with_reducible repeat (first | apply nA | apply nD | apply n1x)); exact HO361.out⟩, ⟨by (with_reducible repeat (first | apply nA | apply nD | apply n1x)); exact HO364.out⟩, ⟨by (with_reducible repeat (first | apply rA | apply rD | apply r1x)); exact HO367.out⟩, ⟨by (with_reducible repeat (first | apply rA | apply rD | apply r1x)); exact HO375.out⟩, ⟨by (with_reducible repeat (first | apply rA | apply rD | apply r1x)); exact HO383.out⟩, ⟨by (with_reducible repeat (first | refine kD ?_ _ | refine k1_ ?_ | refine kA ?_ _)); exact BK355.out⟩, ⟨by (with_reducible repeat (first | refine kD ?_ _ | refine k1_ ?_ | refine kA ?_ _)); exact BK370.out⟩, ⟨by (with_reducible repeat (first | refine kD ?_ _ | refine k1_ ?_ | refine kA ?_ _)); exact BK378.out⟩, ⟨by (with_reducible repeat (first | refine kD ?_ _ | refine k1_ ?_ | refine kA ?_ _)); exact BK386.out⟩, ⟨by repeat (first | (with_reducible first | exact HB.out | apply bA | apply bD | apply b1 | refine bS ?_ GE355.out | refine bS ?_ GE370.out | refine bS ?_ GE378.out | refine bS ?_ GE386.out) | exact HB.out)⟩⟩
      case rest =>
        clear HC20
        (try clear p2); (try clear c4); (try clear c9); (try clear c44); (try clear c44b0); (try clear c44b1); (try clear c45); (try clear c45b0); (try clear c45b1)
        obtain ⟨kq, x53_19, rfl, HA, HJ19, HO_371000, HO_371001, HO_371002, HO_379002, HO_387002, BK355, BK370, BK378, BK386, HB⟩ := hcut
        cases kq with
        | zero => exact absurd HA.out (by simp [stipendlaw10_KeepOrder.j1])
        | succ kj19 =>
          have H := HA.out
          clear HA
          simp only [stipendlaw10_KeepOrder.j1] at H
          by_cases c56 : x53_19 = true
          · subst c56
            have H1 : (some false) = some r := by rw [if_pos rfl] at H; exact H
            clear H
            have H := H1
            clear H1
            exact absurd (Option.some.inj H) (by rw [HRT.out]; decide)
          replace c56 := Bool.eq_false_iff.mpr c56
          subst c56
          have H1 : (if (t362.length : Int) = 0 then (some true) else ((keep_Worst.f kj19 t359 (t362.drop 1) t365 t368 t369).bind fun bt389 => (if bt389.2.2.2.1 ≥ t376 then ((keep_Check.f kj19 l0_0 l0_1 l0_2 a0_3 a0_4).bind fun t397 => (if t397 = 0 then ((keep_Check.f kj19 t359 (t362.drop 1) t365 t368 t369).bind fun t398 => (if t398 = 0 then ((keep_Components.f t359 (t362.drop 1) t365 t368 t369).bind fun t399 => ((keep_Components.f l0_0 l0_1 l0_2 a0_3 a0_4).bind fun t400 => (some (t399 == (wrap64 (t400 - 1)))))) else (some false))) else ((keep_Components.f t359 (t362.drop 1) t365 t368 t369).bind fun t401 => ((keep_Components.f l0_0 l0_1 l0_2 a0_3 a0_4).bind fun t402 => (some (t401 == (wrap64 (t402 - 1)))))))) else (some false)))) = some r := by rw [if_neg (show ¬ (false = true) by decide)] at H; exact H
          clear H
          have H := H1
          clear H1
          by_cases c57 : (t362.length : Int) = 0
          · rw [if_pos c57] at H
            have c57b0 : ((t362.length : Int) == 0) = true := beq_iff_eq.mpr c57
            have c57b1 : ((t362.length : Int) != 0) = false := bne_eq_false_iff_eq.mpr c57
            clear c57
            obtain rfl := Option.some.inj H
            have hnb58 := NB370_355.out
            have hnc58 := NB355_370.out
            have hnb59 := NB370_378.out
            have hnc59 := NB378_370.out
            have hnb60 := NB370_386.out
            have hnc60 := NB386_370.out
            have hcz61_0 : wc.cell? ⟨gb370, 0, none⟩ = some (.slice Ao24 t359.length co24) := (bC BK370.out 0).trans rfl
            have hcz61_1 : wc.cell? ⟨gb370, 1, none⟩ = some (.slice Ao27 t362.length co27) := (bC BK370.out 1).trans rfl
            have hcz61_2 : wc.cell? ⟨gb370, 2, none⟩ = some (.slice Ao28 t365.length co28) := (bC BK370.out 2).trans rfl
            have hcz61_3 : wc.cell? ⟨gb370, 3, none⟩ = some (.int .i64 t368) := (bC BK370.out 3).trans rfl
            have hcz61_4 : wc.cell? ⟨gb370, 4, none⟩ = some (.int .i64 t369) := (bC BK370.out 4).trans rfl
            have hfz61_0 := bF BK370.out 0
            have hfz61_1 := bF BK370.out 1
            have hfz61_2 := bF BK370.out 2
            have hfz61_3 := bF BK370.out 3
            have hfz61_4 := bF BK370.out 4
            go_wp2
            go_ret
            exact ⟨by first | rfl | (simp [errW_none, errW_some] <;> rfl) | (simp [*, errW_none, errW_some] <;> rfl), by repeat (first | (with_reducible first | exact HB.out | apply bA | apply bD | apply b1 | refine bS ?_ GE355.out | refine bS ?_ GE370.out | refine bS ?_ GE378.out | refine bS ?_ GE386.out) | exact HB.out)⟩
          rw [if_neg c57] at H
          have c57b0 : ((t362.length : Int) == 0) = false := beq_eq_false_iff_ne.mpr c57
          have c57b1 : ((t362.length : Int) != 0) = true := bne_iff_ne.mpr c57
          have c57b2 : ¬ (t362 = []) := fun h_ => c57 (by rw [h_]; rfl)
          have hnb558 := NB370_355.out
          have hnc558 := NB355_370.out
          have hnb559 := NB370_378.out
          have hnc559 := NB378_370.out
          have hnb560 := NB370_386.out
          have hnc560 := NB386_370.out
          have hcz561_0 : wc.cell? ⟨gb370, 0, none⟩ = some (.slice Ao24 t359.length co24) := (bC BK370.out 0).trans rfl
          have hcz561_1 : wc.cell? ⟨gb370, 1, none⟩ = some (.slice Ao27 t362.length co27) := (bC BK370.out 1).trans rfl
          have hcz561_2 : wc.cell? ⟨gb370, 2, none⟩ = some (.slice Ao28 t365.length co28) := (bC BK370.out 2).trans rfl
          have hcz561_3 : wc.cell? ⟨gb370, 3, none⟩ = some (.int .i64 t368) := (bC BK370.out 3).trans rfl
          have hcz561_4 : wc.cell? ⟨gb370, 4, none⟩ = some (.int .i64 t369) := (bC BK370.out 4).trans rfl
          have hfz561_0 := bF BK370.out 0
          have hfz561_1 := bF BK370.out 1
          have hfz561_2 := bF BK370.out 2
          have hfz561_3 := bF BK370.out 3
          have hfz561_4 := bF BK370.out 4
          have q57 : (1 : Int) ≤ ((t362.length : Int) : Int) := by omega
          obtain ⟨i057, hi057, _, hsz57, _⟩ := info_parts info43
          have hroom57 : t362.length ≤ co27 := (Kd.N_reads' HO_371001.out).2.1
          have hcut57 := cut_from (P := Try.prog) 23 43 .i64 Try.underlying23 hi057 6 hsz57 Ao27 t362.length co27 1 (by omega) q57
          obtain ⟨Ad, hAd⟩ : ∃ A1, A1 = (if co27 = (1 : Int).toNat then Ao27 else (Ao27 : Option Addr).map (·.add ((1 : Int).toNat * 6))) := ⟨_, rfl⟩
          obtain ⟨cd, hcd⟩ : ∃ c1, c1 = co27 - (1 : Int).toNat := ⟨_, rfl⟩
          obtain ⟨d362, hd362⟩ : ∃ d_ : List (S43), d_ = t362.drop 1 := ⟨_, rfl⟩
          have hy57 : d362.length = t362.length - (1 : Int).toNat := by rw [hd362, List.length_drop]; rfl
          have HCdrop := AM (fun (w_ : World) (h_ : Kd.C k43 w_ Ao27 t362.length t362) => (show Kd.C k43 w_ Ad d362.length d362 by have h2_ := Kd.C_drop (m := (1 : Int).toNat) (c := co27) h_ (by omega) hroom57; rw [hAd, hd362]; exact h2_))
          rw [← hy57, ← hAd, ← hcd] at hcut57
          have HCd := AM (show d362.length ≤ cd by rw [hy57, hcd]; exact Nat.sub_le_sub_right hroom57 _)
          have HD362 := AM hd362
          clear hAd hcd hy57 hroom57 hi057 hsz57 hd362
          replace q57 := eq_true q57
          rw [← HD362.out] at H
          go_upto_region 15 with (fail)
          clear hcut57 q57
          refine Rev.fresh_wp ?_
          intro w57 hb
          have n0_ := AM (Kd.N_below (Kd.N_far (p := ⟨gb370, 1, none⟩) HO_371000.out (fun _ hk => hk.2.2.2.2.2.1) _) hb)
          have n1_ := AM (Kd.N_below (Kd.N_far (p := ⟨gb370, 1, none⟩) HO_371001.out (fun _ hk => hk.2.2.2.2.2.1) _) hb)
          have n2_ := AM (Kd.R_below (Kd.R_mono (ok' := fun _ => True) (Kd.R_far (p := ⟨gb370, 1, none⟩) (Kd.R_types HO_371002.out BK370.out (by decide)) (fun _ hk => hk.2) _) (fun _ _ => trivial)) hb)
          have n3_ := AM (Kd.R_below (Kd.R_mono (Kd.R_far (p := ⟨gb370, 1, none⟩) (Kd.R_types HO_379002.out BK370.out (by decide)) (fun _ hk => hk.2) _) (fun _ h_ => h_.1)) hb)
          have n4_ := AM (Kd.R_below (Kd.R_mono (Kd.R_far (p := ⟨gb370, 1, none⟩) (Kd.R_types HO_387002.out BK370.out (by decide)) (fun _ hk => hk.2) _) (fun _ h_ => h_.1)) hb)
          have n5_ := AM (kB (kF BK355.out NB355_370.out _) hb)
          have n6_ := AM (kB (kP (cs := #[.slice Ao24 t359.length co24, .slice Ao27 t362.length co27, .slice Ao28 t365.length co28, .int .i64 t368, .int .i64 t369]) BK370.out 1 _ rfl) hb)
          have n7_ := AM (kB (kF BK378.out NB378_370.out _) hb)
          have n8_ := AM (kB (kF BK386.out NB386_370.out _) hb)
          have n9_ := AM (bT (bS HB.out GE370.out) hb)
          clear HO_371000 HO_371001 HO_371002 HO_379002 HO_387002 BK355 BK370 BK378 BK386 HB
          have HO_371000 := n0_
          have HO_371001 := n1_
          have HO_371002 := n2_
          have HO_379002 := n3_
          have HO_387002 := n4_
          have BK355 := n5_
          have BK370 : Aside0 (w57.heap[gb370]? = some (.cells #[.slice Ao24 t359.length co24, .slice Ad d362.length cd, .slice Ao28 t365.length co28, .int .i64 t368, .int .i64 t369] 26 (0, 0))) := n6_
          have BK378 := n7_
          have BK386 := n8_
          have HB := n9_
          clear n0_ n1_ n2_ n3_ n4_ n5_ n6_ n7_ n8_ n9_ hb
          clear hnb558 hnc558 hnb559 hnc559 hnb560 hnc560 hcz561_0 hcz561_1 hcz561_2 hcz561_3 hcz561_4 hfz561_0 hfz561_1 hfz561_2 hfz561_3 hfz561_4
          replace H := Option.bind_eq_some_iff.mp H
          obtain ⟨⟨t389, t390, t391, t394, t395⟩, A620, H⟩ := H
          replace H : (if t394 ≥ t376 then ((keep_Check.f kj19 l0_0 l0_1 l0_2 a0_3 a0_4).bind fun t397 => (if t397 = 0 then ((keep_Check.f kj19 t359 d362 t365 t368 t369).bind fun t398 => (if t398 = 0 then ((keep_Components.f t359 d362 t365 t368 t369).bind fun t399 => ((keep_Components.f l0_0 l0_1 l0_2 a0_3 a0_4).bind fun t400 => (some (t399 == (wrap64 (t400 - 1)))))) else (some false))) else ((keep_Components.f t359 d362 t365 t368 t369).bind fun t401 => ((keep_Components.f l0_0 l0_1 l0_2 a0_3 a0_4).bind fun t402 => (some (t401 == (wrap64 (t402 - 1)))))))) else (some false)) = some r := H
          have A62 := AM A620
          clear A620
          by_cases c63 : t394 ≥ t376
          rotate_left
          · rw [if_neg c63] at H
            have c63b0 : decide (t376 ≤ t394) = false := decide_eq_false c63
            clear c63
            exact absurd (Option.some.inj H) (by rw [HRT.out]; decide)
          rw [if_pos c63] at H
          have c63b0 : decide (t376 ≤ t394) = true := decide_eq_true c63
          clear c63
          replace H := Option.bind_eq_some_iff.mp H
          obtain ⟨t397, A640, H⟩ := H
          replace H : (if t397 = 0 then ((keep_Check.f kj19 t359 d362 t365 t368 t369).bind fun t398 => (if t398 = 0 then ((keep_Components.f t359 d362 t365 t368 t369).bind fun t399 => ((keep_Components.f l0_0 l0_1 l0_2 a0_3 a0_4).bind fun t400 => (some (t399 == (wrap64 (t400 - 1)))))) else (some false))) else ((keep_Components.f t359 d362 t365 t368 t369).bind fun t401 => ((keep_Components.f l0_0 l0_1 l0_2 a0_3 a0_4).bind fun t402 => (some (t401 == (wrap64 (t402 - 1))))))) = some r := H
          have A64 := AM A640
          clear A640
          by_cases c65 : t397 = 0
          rotate_left
          · rw [if_neg c65] at H
            have c65b0 : (t397 == 0) = false := beq_eq_false_iff_ne.mpr c65
            have c65b1 : (t397 != 0) = true := bne_iff_ne.mpr c65
            replace H := Option.bind_eq_some_iff.mp H
            obtain ⟨t401, A880, H⟩ := H
            replace H : ((keep_Components.f l0_0 l0_1 l0_2 a0_3 a0_4).bind fun t402 => (some (t401 == (wrap64 (t402 - 1))))) = some r := H
            have A88 := AM A880
            clear A880
            replace H := Option.bind_eq_some_iff.mp H
            obtain ⟨t402, A890, H⟩ := H
            replace H : (some (t401 == (wrap64 (t402 - 1)))) = some r := H
            have A89 := AM A890
            clear A890
            obtain rfl := Option.some.inj H
            have hnb90 := NB370_355.out
            have hnc90 := NB355_370.out
            have hnb91 := NB370_378.out
            have hnc91 := NB378_370.out
            have hnb92 := NB370_386.out
            have hnc92 := NB386_370.out
            have hcz93_0 : w57.cell? ⟨gb370, 0, none⟩ = some (.slice Ao24 t359.length co24) := (bC BK370.out 0).trans rfl
            have hcz93_1 : w57.cell? ⟨gb370, 1, none⟩ = some (.slice Ad d362.length cd) := (bC BK370.out 1).trans rfl
            have hcz93_2 : w57.cell? ⟨gb370, 2, none⟩ = some (.slice Ao28 t365.length co28) := (bC BK370.out 2).trans rfl
            have hcz93_3 : w57.cell? ⟨gb370, 3, none⟩ = some (.int .i64 t368) := (bC BK370.out 3).trans rfl
            have hcz93_4 : w57.cell? ⟨gb370, 4, none⟩ = some (.int .i64 t369) := (bC BK370.out 4).trans rfl
            have hfz93_0 := bF BK370.out 0
            have hfz93_1 := bF BK370.out 1
            have hfz93_2 := bF BK370.out 2
            have hfz93_3 := bF BK370.out 3
            have hfz93_4 := bF BK370.out 4
            try go_wp2_with (first | ((with_reducible refine gC (f := 11) rfl ?_); refine gL (some 64) rfl rfl Try.func11 (by kernel_rfl) rfl #[.agg #[.slice Ao24 t359.length co24, .slice Ad d362.length cd, .slice Ao28 t365.length co28, .int .i64 t368, .int .i64 t369]] rfl (by (try simp only [List.map_toArray, List.map_cons, List.map_nil]); first | done | rfl | (simp only [List.length_drop, List.length_take]; rfl)) ?_; (with_reducible refine (keep_Worst.calls kj19 _ _ t359 _ _ d362 _ _ t365 t368 t369 t389 t390 t391 t394 t395 _ ?side1 ?side2 ?side3 ?side4 ?side5 ?side6 A62.out).mono ?_); (case side1 => repeat (first | exact (Kd.N_reads' HO_371000.out).2.2 | (with_reducible refine cA ?_ _) | (with_reducible refine cD ?_ _) | (with_reducible refine c1_ ?_))); (case side2 => exact (Kd.N_reads' HO_371000.out).2.1); (case side3 => repeat (first | exact HCdrop.out _ (Kd.N_reads' HO_371001.out).2.2 | (with_reducible refine cA ?_ _) | (with_reducible refine cD ?_ _) | (with_reducible refine c1_ ?_))); (case side4 => exact HCd.out); (case side5 => repeat (first | exact (Kd.R_reads' HO_371002.out).2.2 | (with_reducible refine cA ?_ _) | (with_reducible refine cD ?_ _) | (with_reducible refine c1_ ?_))); (case side6 => exact (Kd.R_reads' HO_371002.out).2.1); rintro e w94 ⟨v392, rfl, ho0, hb⟩; refine ⟨_, rfl, ?_⟩; have n0_ := AM (Kd.N_elder' (by (with_reducible repeat (first | apply nA | apply nD | apply n1x)); exact HO_371000.out) (Kd.R_base ho0) hb); have n1_ := AM (Kd.N_elder' (by (with_reducible repeat (first | apply nA | apply nD | apply n1x)); exact HO_371001.out) (Kd.R_base ho0) hb); have n2_ := AM (Kd.R_below (by (with_reducible repeat (first | apply rA | apply rD | apply r1x)); exact HO_371002.out) hb); have n3_ := AM (Kd.R_elder' (by (with_reducible repeat (first | apply rA | apply rD | apply r1x)); exact HO_379002.out) (Kd.R_base ho0) hb); have n4_ := AM (Kd.R_elder' (by (with_reducible repeat (first | apply rA | apply rD | apply r1x)); exact HO_387002.out) (Kd.R_base ho0) hb); have n5_ := AM (Kd.R_lower (Kd.R_new' (Kd.R_new' ho0 (Kd.R_lt (by (with_reducible repeat (first | apply rA | apply rD | apply r1x)); exact HO_379002.out))) (Kd.R_lt (by (with_reducible repeat (first | apply rA | apply rD | apply r1x)); exact HO_387002.out))) (bZ (by repeat (first | (with_reducible first | exact HB.out | apply bA | apply bD | apply b1 | refine bS ?_ GE355.out | refine bS ?_ GE370.out | refine bS ?_ GE378.out | refine bS ?_ GE386.out) | exact HB.out)))); have n6_ := AM (kB (g := gb355) (o := .cells #[.slice A0_0 l0_0.length c0_0, .slice A0_1 l0_1.length c0_1, .slice A0_2 l0_2.length c0_2, .int .i64 a0_3, .int .i64 a0_4] 26 (0, 0)) (by (with_reducible repeat (first | refine kD ?_ _ | refine k1_ ?_ | refine kA ?_ _)); exact BK355.out) hb); have n7_ := AM (kB (g := gb370) (o := .cells #[.slice Ao24 t359.length co24, .slice Ad d362.length cd, .slice Ao28 t365.length co28, .int .i64 t368, .int .i64 t369] 26 (0, 0)) (by (with_reducible repeat (first | refine kD ?_ _ | refine k1_ ?_ | refine kA ?_ _)); exact BK370.out) hb); have n8_ := AM (kB (g := gb378) (o := .cells #[.int .i64 t371, .int .i64 t372, .slice Ao35 t373.length co35, .int .i64 t376] 33 (0, 0)) (by (with_reducible repeat (first | refine kD ?_ _ | refine k1_ ?_ | refine kA ?_ _)); exact BK378.out) hb); have n9_ := AM (kB (g := gb386) (o := .cells #[.int .i64 t379, .int .i64 t380, .slice Ao43 t381.length co43, .int .i64 t384] 33 (0, 0)) (by (with_reducible repeat (first | refine kD ?_ _ | refine k1_ ?_ | refine kA ?_ _)); exact BK386.out) hb); have n10_ := AM (bT (by repeat (first | (with_reducible first | exact HB.out | apply bA | apply bD | apply b1 | refine bS ?_ GE355.out | refine bS ?_ GE370.out | refine bS ?_ GE378.out | refine bS ?_ GE386.out) | exact HB.out)) hb); clear HO_371000; clear HO_371001; clear HO_371002; clear HO_379002; clear HO_387002; clear BK355; clear BK370; clear BK378; clear BK386; clear HB; have HO_371000 := n0_; have HO_371001 := n1_; have HO_371002 := n2_; have HO_379002 := n3_; have HO_387002 := n4_; have HO393 := n5_; have BK355 := n6_; have BK370 := n7_; have BK378 := n8_; have BK386 := n9_; have HB := n10_; clear n0_ n1_ n2_ n3_ n4_ n5_ n6_ n7_ n8_ n9_ n10_; (try clear hb); (try clear hb2); (try clear hk); (try clear hi); (try clear ho0)) | ((with_reducible refine gD (N := 8) rfl ?_); refine bE ?hg (N := 8) ?hd (cs := #[.int .i64 0, .int .i64 0, .slice none 0 0, .int .i64 0]) (t := 33) ?hr ?_; (case hd => rfl); (case hg => rfl); (case hr => first | (go_simp; done) | (go_simp; rfl)); intro gb396 hg w95 hbox hb; have n0_ := AM (Kd.N_below (Kd.N_elderB (by (with_reducible repeat (first | apply nA | apply nD | apply n1x)); exact HO_371000.out) gb396 (Nat.le_of_eq hg.symm)) hb); have n1_ := AM (Kd.N_below (Kd.N_elderB (by (with_reducible repeat (first | apply nA | apply nD | apply n1x)); exact HO_371001.out) gb396 (Nat.le_of_eq hg.symm)) hb); have n2_ := AM (Kd.R_below (by (with_reducible repeat (first | apply rA | apply rD | apply r1x)); exact HO_371002.out) hb); have n3_ := AM (Kd.R_below (by (with_reducible repeat (first | apply rA | apply rD | apply r1x)); exact HO_379002.out) hb); have n4_ := AM (Kd.R_below (by (with_reducible repeat (first | apply rA | apply rD | apply r1x)); exact HO_387002.out) hb); have n5_ := AM (Kd.R_below (by (with_reducible repeat (first | apply rA | apply rD | apply r1x)); exact HO393.out) hb); have n6_ := AM (kB (g := gb355) (o := .cells #[.slice A0_0 l0_0.length c0_0, .slice A0_1 l0_1.length c0_1, .slice A0_2 l0_2.length c0_2, .int .i64 a0_3, .int .i64 a0_4] 26 (0, 0)) (by (with_reducible repeat (first | refine kD ?_ _ | refine k1_ ?_ | refine kA ?_ _)); exact BK355.out) hb); have n7_ := AM (kB (g := gb370) (o := .cells #[.slice Ao24 t359.length co24, .slice Ad d362.length cd, .slice Ao28 t365.length co28, .int .i64 t368, .int .i64 t369] 26 (0, 0)) (by (with_reducible repeat (first | refine kD ?_ _ | refine k1_ ?_ | refine kA ?_ _)); exact BK370.out) hb); have n8_ := AM (kB (g := gb378) (o := .cells #[.int .i64 t371, .int .i64 t372, .slice Ao35 t373.length co35, .int .i64 t376] 33 (0, 0)) (by (with_reducible repeat (first | refine kD ?_ _ | refine k1_ ?_ | refine kA ?_ _)); exact BK378.out) hb); have n9_ := AM (kB (g := gb386) (o := .cells #[.int .i64 t379, .int .i64 t380, .slice Ao43 t381.length co43, .int .i64 t384] 33 (0, 0)) (by (with_reducible repeat (first | refine kD ?_ _ | refine k1_ ?_ | refine kA ?_ _)); exact BK386.out) hb); have n10_ := AM (bT (by repeat (first | (with_reducible first | exact HB.out | apply bA | apply bD | apply b1 | refine bS ?_ GE355.out | refine bS ?_ GE370.out | refine bS ?_ GE378.out | refine bS ?_ GE386.out) | exact HB.out)) hb); have n11_ := AM (hbox); have n12_ := AM ((by rw [hg]; exact (bZ (by repeat (first | (with_reducible first | exact HB.out | apply bA | apply bD | apply b1 | refine bS ?_ GE355.out | refine bS ?_ GE370.out | refine bS ?_ GE378.out | refine bS ?_ GE386.out) | exact HB.out))) : w.heap.size ≤ gb396)); have n13_ := AM ((by rw [hg]; exact (bZ (by repeat (first | (with_reducible first | exact HB.out | apply bA | apply bD | apply b1 | refine bS ?_ GE355.out | refine bS ?_ GE370.out | refine bS ?_ GE378.out | refine bS ?_ GE386.out) | exact HB.out))) : w.heap.size ≤ gb396)); have n14_ := AM ((by rw [hg]; exact Nat.ne_of_lt (blk_lt (g := gb355) (o := .cells #[.slice A0_0 l0_0.length c0_0, .slice A0_1 l0_1.length c0_1, .slice A0_2 l0_2.length c0_2, .int .i64 a0_3, .int .i64 a0_4] 26 (0, 0)) (by (with_reducible repeat (first | refine kD ?_ _ | refine k1_ ?_ | refine kA ?_ _)); exact BK355.out)) : gb355 ≠ gb396)); have n15_ := AM ((by rw [hg]; exact Nat.ne_of_gt (blk_lt (g := gb355) (o := .cells #[.slice A0_0 l0_0.length c0_0, .slice A0_1 l0_1.length c0_1, .slice A0_2 l0_2.length c0_2, .int .i64 a0_3, .int .i64 a0_4] 26 (0, 0)) (by (with_reducible repeat (first | refine kD ?_ _ | refine k1_ ?_ | refine kA ?_ _)); exact BK355.out)) : gb396 ≠ gb355)); have n16_ := AM ((by rw [hg]; exact Nat.ne_of_lt (blk_lt (g := gb370) (o := .cells #[.slice Ao24 t359.length co24, .slice Ad d362.length cd, .slice Ao28 t365.length co28, .int .i64 t368, .int .i64 t369] 26 (0, 0)) (by (with_reducible repeat (first | refine kD ?_ _ | refine k1_ ?_ | refine kA ?_ _)); exact BK370.out)) : gb370 ≠ gb396)); have n17_ := AM ((by rw [hg]; exact Nat.ne_of_gt (blk_lt (g := gb370) (o := .cells #[.slice Ao24 t359.length co24, .slice Ad d362.length cd, .slice Ao28 t365.length co28, .int .i64 t368, .int .i64 t369] 26 (0, 0)) (by (with_reducible repeat (first | refine kD ?_ _ | refine k1_ ?_ | refine kA ?_ _)); exact BK370.out)) : gb396 ≠ gb370)); have n18_ := AM ((by rw [hg]; exact Nat.ne_of_lt (blk_lt (g := gb378) (o := .cells #[.int .i64 t371, .int .i64 t372, .slice Ao35 t373.length co35, .int .i64 t376] 33 (0, 0)) (by (with_reducible repeat (first | refine kD ?_ _ | refine k1_ ?_ | refine kA ?_ _)); exact BK378.out)) : gb378 ≠ gb396)); have n19_ := AM ((by rw [hg]; exact Nat.ne_of_gt (blk_lt (g := gb378) (o := .cells #[.int .i64 t371, .int .i64 t372, .slice Ao35 t373.length co35, .int .i64 t376] 33 (0, 0)) (by (with_reducible repeat (first | refine kD ?_ _ | refine k1_ ?_ | refine kA ?_ _)); exact BK378.out)) : gb396 ≠ gb378)); have n20_ := AM ((by rw [hg]; exact Nat.ne_of_lt (blk_lt (g := gb386) (o := .cells #[.int .i64 t379, .int .i64 t380, .slice Ao43 t381.length co43, .int .i64 t384] 33 (0, 0)) (by (with_reducible repeat (first | refine kD ?_ _ | refine k1_ ?_ | refine kA ?_ _)); exact BK386.out)) : gb386 ≠ gb396)); have n21_ := AM ((by rw [hg]; exact Nat.ne_of_gt (blk_lt (g := gb386) (o := .cells #[.int .i64 t379, .int .i64 t380, .slice Ao43 t381.length co43, .int .i64 t384] 33 (0, 0)) (by (with_reducible repeat (first | refine kD ?_ _ | refine k1_ ?_ | refine kA ?_ _)); exact BK386.out)) : gb396 ≠ gb386)); clear HO_371000; clear HO_371001; clear HO_371002; clear HO_379002; clear HO_387002; clear HO393; clear BK355; clear BK370; clear BK378; clear BK386; clear HB; have HO_371000 := n0_; have HO_371001 := n1_; have HO_371002 := n2_; have HO_379002 := n3_; have HO_387002 := n4_; have HO393 := n5_; have BK355 := n6_; have BK370 := n7_; have BK378 := n8_; have BK386 := n9_; have HB := n10_; have BK396 := n11_; have GW396 := n12_; have GE396 := n13_; have NB355_396 := n14_; have NB396_355 := n15_; have NB370_396 := n16_; have NB396_370 := n17_; have NB378_396 := n18_; have NB396_378 := n19_; have NB386_396 := n20_; have NB396_386 := n21_; clear n0_ n1_ n2_ n3_ n4_ n5_ n6_ n7_ n8_ n9_ n10_ n11_ n12_ n13_ n14_ n15_ n16_ n17_ n18_ n19_ n20_ n21_; clear hb hbox hg; have hnb96 := NB396_355.out; have hnc96 := NB355_396.out; have hnb97 := NB396_370.out; have hnc97 := NB370_396.out; have hnb98 := NB396_378.out; have hnc98 := NB378_396.out; have hnb99 := NB396_386.out; have hnc99 := NB386_396.out; have hcz100_0 : w95.cell? ⟨gb396, 0, none⟩ = some (.int .i64 0) := (bC BK396.out 0).trans rfl; have hcz100_1 : w95.cell? ⟨gb396, 1, none⟩ = some (.int .i64 0) := (bC BK396.out 1).trans rfl; have hcz100_2 : w95.cell? ⟨gb396, 2, none⟩ = some (.slice none 0 0) := (bC BK396.out 2).trans rfl; have hcz100_3 : w95.cell? ⟨gb396, 3, none⟩ = some (.int .i64 0) := (bC BK396.out 3).trans rfl; have hfz100_0 := bF BK396.out 0; have hfz100_1 := bF BK396.out 1; have hfz100_2 := bF BK396.out 2; have hfz100_3 := bF BK396.out 3; obtain ⟨Ao101, co101, eo101⟩ := Kd.R_slice HO393.out; subst eo101))
            have n0_ : Aside0 (Kd.N (Kd.slice 41 k41) 39 ((((w95.setCell ⟨gb396, 0, none⟩ (.int .i64 t389)).setCell ⟨gb396, 1, none⟩ (.int .i64 t390)).setCell ⟨gb396, 2, none⟩ (.slice Ao101 t391.length co101)).setCell ⟨gb396, 3, none⟩ (.int .i64 t394)) w.heap.size (fun k_ => some k_ ≠ (.slice Ao27 t362.length co27 : Value).ownBlock ∧ some k_ ≠ (.slice Ao28 t365.length co28 : Value).ownBlock ∧ some k_ ≠ (.slice Ao35 t373.length co35 : Value).ownBlock ∧ some k_ ≠ (.slice Ao43 t381.length co43 : Value).ownBlock ∧ some k_ ≠ (.slice Ao101 t391.length co101 : Value).ownBlock ∧ k_ ≠ gb355 ∧ k_ ≠ gb370 ∧ k_ ≠ gb378 ∧ k_ ≠ gb386 ∧ k_ ≠ gb396) (.slice Ao24 t359.length co24) t359) := ⟨by (with_reducible repeat (first | apply nA | apply nD | apply n1x)); exact Kd.N_mono (Kd.N_far (p := ⟨gb396, 3, none⟩) (Kd.N_far (p := ⟨gb396, 2, none⟩) (Kd.N_far (p := ⟨gb396, 1, none⟩) (Kd.N_far (p := ⟨gb396, 0, none⟩) (Kd.N_mono HO_371000.out (fun k_ hk => (⟨hk, hk.2⟩ : _ ∧ k_ ≠ gb396))) (fun _ hk => hk.2) (.int .i64 t389)) (fun _ hk => hk.2) (.int .i64 t390)) (fun _ hk => hk.2) (.slice Ao101 t391.length co101)) (fun _ hk => hk.2) (.int .i64 t394)) (fun _ hk => ⟨hk.1.1.1.1, ⟨hk.1.1.1.2.1, ⟨hk.1.1.1.2.2.1, ⟨hk.1.1.1.2.2.2.1, ⟨hk.1.1.2, ⟨hk.1.1.1.2.2.2.2.1, ⟨hk.1.1.1.2.2.2.2.2.1, ⟨hk.1.1.1.2.2.2.2.2.2.1, ⟨hk.1.1.1.2.2.2.2.2.2.2, hk.1.2⟩⟩⟩⟩⟩⟩⟩⟩⟩)⟩
            have n1_ : Aside0 (Kd.N k43 43 ((((w95.setCell ⟨gb396, 0, none⟩ (.int .i64 t389)).setCell ⟨gb396, 1, none⟩ (.int .i64 t390)).setCell ⟨gb396, 2, none⟩ (.slice Ao101 t391.length co101)).setCell ⟨gb396, 3, none⟩ (.int .i64 t394)) w.heap.size (fun k_ => some k_ ≠ (.slice Ao24 t359.length co24 : Value).ownBlock ∧ some k_ ≠ (.slice Ao28 t365.length co28 : Value).ownBlock ∧ some k_ ≠ (.slice Ao35 t373.length co35 : Value).ownBlock ∧ some k_ ≠ (.slice Ao43 t381.length co43 : Value).ownBlock ∧ some k_ ≠ (.slice Ao101 t391.length co101 : Value).ownBlock ∧ k_ ≠ gb355 ∧ k_ ≠ gb370 ∧ k_ ≠ gb378 ∧ k_ ≠ gb386 ∧ k_ ≠ gb396) (.slice Ao27 t362.length co27) t362) := ⟨by (with_reducible repeat (first | apply nA | apply nD | apply n1x)); exact Kd.N_mono (Kd.N_far (p := ⟨gb396, 3, none⟩) (Kd.N_far (p := ⟨gb396, 2, none⟩) (Kd.N_far (p := ⟨gb396, 1, none⟩) (Kd.N_far (p := ⟨gb396, 0, none⟩) (Kd.N_mono HO_371001.out (fun k_ hk => (⟨hk, hk.2⟩ : _ ∧ k_ ≠ gb396))) (fun _ hk => hk.2) (.int .i64 t389)) (fun _ hk => hk.2) (.int .i64 t390)) (fun _ hk => hk.2) (.slice Ao101 t391.length co101)) (fun _ hk => hk.2) (.int .i64 t394)) (fun _ hk => ⟨hk.1.1.1.1, ⟨hk.1.1.1.2.1, ⟨hk.1.1.1.2.2.1, ⟨hk.1.1.1.2.2.2.1, ⟨hk.1.1.2, ⟨hk.1.1.1.2.2.2.2.1, ⟨hk.1.1.1.2.2.2.2.2.1, ⟨hk.1.1.1.2.2.2.2.2.2.1, ⟨hk.1.1.1.2.2.2.2.2.2.2, hk.1.2⟩⟩⟩⟩⟩⟩⟩⟩⟩)⟩
            have n2_ : Aside0 (Kd.R k58 58 ((((w95.setCell ⟨gb396, 0, none⟩ (.int .i64 t389)).setCell ⟨gb396, 1, none⟩ (.int .i64 t390)).setCell ⟨gb396, 2, none⟩ (.slice Ao101 t391.length co101)).setCell ⟨gb396, 3, none⟩ (.int .i64 t394)) w.heap.size (fun _ => True) (.slice Ao28 t365.length co28) t365) := ⟨by (with_reducible repeat (first | apply rA | apply rD | apply r1x)); exact Kd.R_mono (Kd.R_far (p := ⟨gb396, 3, none⟩) (Kd.R_far (p := ⟨gb396, 2, none⟩) (Kd.R_far (p := ⟨gb396, 1, none⟩) (Kd.R_far (p := ⟨gb396, 0, none⟩) (Kd.R_types HO_371002.out BK396.out (by decide)) (fun _ hk => hk.2) (.int .i64 t389)) (fun _ hk => hk.2) (.int .i64 t390)) (fun _ hk => hk.2) (.slice Ao101 t391.length co101)) (fun _ hk => hk.2) (.int .i64 t394)) (fun _ hk => trivial)⟩
            have n3_ : Aside0 (Kd.R (Kd.int .i64) 3 ((((w95.setCell ⟨gb396, 0, none⟩ (.int .i64 t389)).setCell ⟨gb396, 1, none⟩ (.int .i64 t390)).setCell ⟨gb396, 2, none⟩ (.slice Ao101 t391.length co101)).setCell ⟨gb396, 3, none⟩ (.int .i64 t394)) w.heap.size (fun k_ => some k_ ≠ (.slice Ao43 t381.length co43 : Value).ownBlock ∧ some k_ ≠ (.slice Ao101 t391.length co101 : Value).ownBlock) (.slice Ao35 t373.length co35) t373) := ⟨by (with_reducible repeat (first | apply rA | apply rD | apply r1x)); exact Kd.R_mono (Kd.R_far (p := ⟨gb396, 3, none⟩) (Kd.R_far (p := ⟨gb396, 2, none⟩) (Kd.R_far (p := ⟨gb396, 1, none⟩) (Kd.R_far (p := ⟨gb396, 0, none⟩) (Kd.R_types HO_379002.out BK396.out (by decide)) (fun _ hk => hk.2) (.int .i64 t389)) (fun _ hk => hk.2) (.int .i64 t390)) (fun _ hk => hk.2) (.slice Ao101 t391.length co101)) (fun _ hk => hk.2) (.int .i64 t394)) (fun _ hk => ⟨hk.1.1, hk.1.2⟩)⟩
            have n4_ : Aside0 (Kd.R (Kd.int .i64) 3 ((((w95.setCell ⟨gb396, 0, none⟩ (.int .i64 t389)).setCell ⟨gb396, 1, none⟩ (.int .i64 t390)).setCell ⟨gb396, 2, none⟩ (.slice Ao101 t391.length co101)).setCell ⟨gb396, 3, none⟩ (.int .i64 t394)) w.heap.size (fun k_ => some k_ ≠ (.slice Ao35 t373.length co35 : Value).ownBlock ∧ some k_ ≠ (.slice Ao101 t391.length co101 : Value).ownBlock) (.slice Ao43 t381.length co43) t381) := ⟨by (with_reducible repeat (first | apply rA | apply rD | apply r1x)); exact Kd.R_mono (Kd.R_far (p := ⟨gb396, 3, none⟩) (Kd.R_far (p := ⟨gb396, 2, none⟩) (Kd.R_far (p := ⟨gb396, 1, none⟩) (Kd.R_far (p := ⟨gb396, 0, none⟩) (Kd.R_types HO_387002.out BK396.out (by decide)) (fun _ hk => hk.2) (.int .i64 t389)) (fun _ hk => hk.2) (.int .i64 t390)) (fun _ hk => hk.2) (.slice Ao101 t391.length co101)) (fun _ hk => hk.2) (.int .i64 t394)) (fun _ hk => ⟨hk.1.1, hk.1.2⟩)⟩
            have n5_ : Aside0 (Kd.R (Kd.int .i64) 3 ((((w95.setCell ⟨gb396, 0, none⟩ (.int .i64 t389)).setCell ⟨gb396, 1, none⟩ (.int .i64 t390)).setCell ⟨gb396, 2, none⟩ (.slice Ao101 t391.length co101)).setCell ⟨gb396, 3, none⟩ (.int .i64 t394)) w.heap.size (fun k_ => some k_ ≠ (.slice Ao35 t373.length co35 : Value).ownBlock ∧ some k_ ≠ (.slice Ao43 t381.length co43 : Value).ownBlock) (.slice Ao101 t391.length co101) t391) := ⟨by (with_reducible repeat (first | apply rA | apply rD | apply r1x)); exact Kd.R_mono (Kd.R_far (p := ⟨gb396, 3, none⟩) (Kd.R_far (p := ⟨gb396, 2, none⟩) (Kd.R_far (p := ⟨gb396, 1, none⟩) (Kd.R_far (p := ⟨gb396, 0, none⟩) (Kd.R_types HO393.out BK396.out (by decide)) (fun _ hk => hk.2) (.int .i64 t389)) (fun _ hk => hk.2) (.int .i64 t390)) (fun _ hk => hk.2) (.slice Ao101 t391.length co101)) (fun _ hk => hk.2) (.int .i64 t394)) (fun _ hk => ⟨hk.1.1.2, hk.1.2⟩)⟩
            have n6_ : Aside0 (((((w95.setCell ⟨gb396, 0, none⟩ (.int .i64 t389)).setCell ⟨gb396, 1, none⟩ (.int .i64 t390)).setCell ⟨gb396, 2, none⟩ (.slice Ao101 t391.length co101)).setCell ⟨gb396, 3, none⟩ (.int .i64 t394)).heap[gb355]? = some (.cells #[.slice A0_0 l0_0.length c0_0, .slice A0_1 l0_1.length c0_1, .slice A0_2 l0_2.length c0_2, .int .i64 a0_3, .int .i64 a0_4] 26 (0, 0))) := ⟨by (with_reducible repeat (first | refine kD ?_ _ | refine k1_ ?_ | refine kA ?_ _)); refine kF ?_ NB355_396.out _; (with_reducible repeat (first | refine kD ?_ _ | refine k1_ ?_ | refine kA ?_ _)); refine kF ?_ NB355_396.out _; (with_reducible repeat (first | refine kD ?_ _ | refine k1_ ?_ | refine kA ?_ _)); refine kF ?_ NB355_396.out _; (with_reducible repeat (first | refine kD ?_ _ | refine k1_ ?_ | refine kA ?_ _)); refine kF ?_ NB355_396.out _; (with_reducible repeat (first | refine kD ?_ _ | refine k1_ ?_ | refine kA ?_ _)); exact BK355.out⟩
            have n7_ : Aside0 (((((w95.setCell ⟨gb396, 0, none⟩ (.int .i64 t389)).setCell ⟨gb396, 1, none⟩ (.int .i64 t390)).setCell ⟨gb396, 2, none⟩ (.slice Ao101 t391.length co101)).setCell ⟨gb396, 3, none⟩ (.int .i64 t394)).heap[gb370]? = some (.cells #[.slice Ao24 t359.length co24, .slice Ad d362.length cd, .slice Ao28 t365.length co28, .int .i64 t368, .int .i64 t369] 26 (0, 0))) := ⟨by (with_reducible repeat (first | refine kD ?_ _ | refine k1_ ?_ | refine kA ?_ _)); refine kF ?_ NB370_396.out _; (with_reducible repeat (first | refine kD ?_ _ | refine k1_ ?_ | refine kA ?_ _)); refine kF ?_ NB370_396.out _; (with_reducible repeat (first | refine kD ?_ _ | refine k1_ ?_ | refine kA ?_ _)); refine kF ?_ NB370_396.out _; (with_reducible repeat (first | refine kD ?_ _ | refine k1_ ?_ | refine kA ?_ _)); refine kF ?_ NB370_396.out _; (with_reducible repeat (first | refine kD ?_ _ | refine k1_ ?_ | refine kA ?_ _)); exact BK370.out⟩
            have n8_ : Aside0 (((((w95.setCell ⟨gb396, 0, none⟩ (.int .i64 t389)).setCell ⟨gb396, 1, none⟩ (.int .i64 t390)).setCell ⟨gb396, 2, none⟩ (.slice Ao101 t391.length co101)).setCell ⟨gb396, 3, none⟩ (.int .i64 t394)).heap[gb378]? = some (.cells #[.int .i64 t371, .int .i64 t372, .slice Ao35 t373.length co35, .int .i64 t376] 33 (0, 0))) := ⟨by (with_reducible repeat (first | refine kD ?_ _ | refine k1_ ?_ | refine kA ?_ _)); refine kF ?_ NB378_396.out _; (with_reducible repeat (first | refine kD ?_ _ | refine k1_ ?_ | refine kA ?_ _)); refine kF ?_ NB378_396.out _; (with_reducible repeat (first | refine kD ?_ _ | refine k1_ ?_ | refine kA ?_ _)); refine kF ?_ NB378_396.out _; (with_reducible repeat (first | refine kD ?_ _ | refine k1_ ?_ | refine kA ?_ _)); refine kF ?_ NB378_396.out _; (with_reducible repeat (first | refine kD ?_ _ | refine k1_ ?_ | refine kA ?_ _)); exact BK378.out⟩
            have n9_ : Aside0 (((((w95.setCell ⟨gb396, 0, none⟩ (.int .i64 t389)).setCell ⟨gb396, 1, none⟩ (.int .i64 t390)).setCell ⟨gb396, 2, none⟩ (.slice Ao101 t391.length co101)).setCell ⟨gb396, 3, none⟩ (.int .i64 t394)).heap[gb386]? = some (.cells #[.int .i64 t379, .int .i64 t380, .slice Ao43 t381.length co43, .int .i64 t384] 33 (0, 0))) := ⟨by (with_reducible repeat (first | refine kD ?_ _ | refine k1_ ?_ | refine kA ?_ _)); refine kF ?_ NB386_396.out _; (with_reducible repeat (first | refine kD ?_ _ | refine k1_ ?_ | refine kA ?_ _)); refine kF ?_ NB386_396.out _; (with_reducible repeat (first | refine kD ?_ _ | refine k1_ ?_ | refine kA ?_ _)); refine kF ?_ NB386_396.out _; (with_reducible repeat (first | refine kD ?_ _ | refine k1_ ?_ | refine kA ?_ _)); refine kF ?_ NB386_396.out _; (with_reducible repeat (first | refine kD ?_ _ | refine k1_ ?_ | refine kA ?_ _)); exact BK386.out⟩
            have n10_ : Aside0 (((((w95.setCell ⟨gb396, 0, none⟩ (.int .i64 t389)).setCell ⟨gb396, 1, none⟩ (.int .i64 t390)).setCell ⟨gb396, 2, none⟩ (.slice Ao101 t391.length co101)).setCell ⟨gb396, 3, none⟩ (.int .i64 t394)).heap[gb396]? = some (.cells #[.int .i64 t389, .int .i64 t390, .slice Ao101 t391.length co101, .int .i64 t394] 33 (0, 0))) := ⟨by (with_reducible repeat (first | refine kD ?_ _ | refine k1_ ?_ | refine kA ?_ _)); refine kP (cs := #[.int .i64 t389, .int .i64 t390, .slice Ao101 t391.length co101, .int .i64 0]) ?_ 3 _ rfl; (with_reducible repeat (first | refine kD ?_ _ | refine k1_ ?_ | refine kA ?_ _)); refine kP (cs := #[.int .i64 t389, .int .i64 t390, .slice none 0 0, .int .i64 0]) ?_ 2 _ rfl; (with_reducible repeat (first | refine kD ?_ _ | refine k1_ ?_ | refine kA ?_ _)); refine kP (cs := #[.int .i64 t389, .int .i64 0, .slice none 0 0, .int .i64 0]) ?_ 1 _ rfl; (with_reducible repeat (first | refine kD ?_ _ | refine k1_ ?_ | refine kA ?_ _)); refine kP (cs := #[.int .i64 0, .int .i64 0, .slice none 0 0, .int .i64 0]) ?_ 0 _ rfl; (with_reducible repeat (first | refine kD ?_ _ | refine k1_ ?_ | refine kA ?_ _)); exact BK396.out⟩
            have n11_ : Aside0 (Below w.heap.size w ((((w95.setCell ⟨gb396, 0, none⟩ (.int .i64 t389)).setCell ⟨gb396, 1, none⟩ (.int .i64 t390)).setCell ⟨gb396, 2, none⟩ (.slice Ao101 t391.length co101)).setCell ⟨gb396, 3, none⟩ (.int .i64 t394))) := ⟨by repeat (first | (with_reducible first | exact HB.out | apply bA | apply bD | apply b1 | refine bS ?_ GE355.out | refine bS ?_ GE370.out | refine bS ?_ GE378.out | refine bS ?_ GE386.out | refine bS ?_ GE396.out) | exact HB.out)⟩
            (try clear HO_371000)
            (try clear HO_371001)
            (try clear HO_371002)
            (try clear HO_379002)
            (try clear HO_387002)
            (try clear HO393)
            (try clear BK355)
            (try clear BK370)
            (try clear BK378)
            (try clear BK386)
            (try clear BK396)
            (try clear HB)
            generalize ((((w95.setCell ⟨gb396, 0, none⟩ (.int .i64 t389)).setCell ⟨gb396, 1, none⟩ (.int .i64 t390)).setCell ⟨gb396, 2, none⟩ (.slice Ao101 t391.length co101)).setCell ⟨gb396, 3, none⟩ (.int .i64 t394)) = w102 at n0_ n1_ n2_ n3_ n4_ n5_ n6_ n7_ n8_ n9_ n10_ n11_ ⊢
            have HO_371000 := n0_
            have HO_371001 := n1_
            have HO_371002 := n2_
            have HO_379002 := n3_
            have HO_387002 := n4_
            have HO393 := n5_
            have BK355 := n6_
            have BK370 := n7_
            have BK378 := n8_
            have BK386 := n9_
            have BK396 := n10_
            have HB := n11_
            clear n0_ n1_ n2_ n3_ n4_ n5_ n6_ n7_ n8_ n9_ n10_ n11_
            have n0_ := AM (n1x HO_371000.out)
            have n1_ := AM (n1x HO_371001.out)
            have n2_ := AM (r1x HO_371002.out)
            have n3_ := AM (r1x HO_379002.out)
            have n4_ := AM (r1x HO_387002.out)
            have n5_ := AM (r1x HO393.out)
            have n6_ := AM (k1_ BK355.out)
            have n7_ := AM (k1_ BK370.out)
            have n8_ := AM (k1_ BK378.out)
            have n9_ := AM (k1_ BK386.out)
            have n10_ := AM (k1_ BK396.out)
            have n11_ := AM (b1 HB.out)
            clear HO_371000
            clear HO_371001
            clear HO_371002
            clear HO_379002
            clear HO_387002
            clear HO393
            clear BK355
            clear BK370
            clear BK378
            clear BK386
            clear BK396
            clear HB
            have HO_371000 := n0_
            have HO_371001 := n1_
            have HO_371002 := n2_
            have HO_379002 := n3_
            have HO_387002 := n4_
            have HO393 := n5_
            have BK355 := n6_
            have BK370 := n7_
            have BK378 := n8_
            have BK386 := n9_
            have BK396 := n10_
            have HB := n11_
            clear n0_ n1_ n2_ n3_ n4_ n5_ n6_ n7_ n8_ n9_ n10_ n11_
            refine start_ (n := 24) (S := fun w' => w'.cell? ⟨gb396, 0, none⟩ = some (.int .i64 t389) ∧ w'.cell? ⟨gb396, 1, none⟩ = some (.int .i64 t390) ∧ w'.cell? ⟨gb396, 2, none⟩ = some (.slice Ao101 t391.length co101) ∧ w'.cell? ⟨gb396, 3, none⟩ = some (.int .i64 t394) ∧ w'.cell? ⟨gb378, 0, none⟩ = some (.int .i64 t371) ∧ w'.cell? ⟨gb378, 1, none⟩ = some (.int .i64 t372) ∧ w'.cell? ⟨gb378, 2, none⟩ = some (.slice Ao35 t373.length co35) ∧ w'.cell? ⟨gb378, 3, none⟩ = some (.int .i64 t376) ∧ w'.cell? ⟨gb355, 0, none⟩ = some (.slice A0_0 l0_0.length c0_0) ∧ w'.cell? ⟨gb355, 1, none⟩ = some (.slice A0_1 l0_1.length c0_1) ∧ w'.cell? ⟨gb355, 2, none⟩ = some (.slice A0_2 l0_2.length c0_2) ∧ w'.cell? ⟨gb355, 3, none⟩ = some (.int .i64 a0_3) ∧ w'.cell? ⟨gb355, 4, none⟩ = some (.int .i64 a0_4) ∧ w'.cell? ⟨gb370, 0, none⟩ = some (.slice Ao24 t359.length co24) ∧ w'.cell? ⟨gb370, 1, none⟩ = some (.slice Ad d362.length cd) ∧ w'.cell? ⟨gb370, 2, none⟩ = some (.slice Ao28 t365.length co28) ∧ w'.cell? ⟨gb370, 3, none⟩ = some (.int .i64 t368) ∧ w'.cell? ⟨gb370, 4, none⟩ = some (.int .i64 t369)) (ds := []) #[false, false, false, false, false, false, false, false, false, false, false, false, false, false, false, false, false, false, false, false, false, false, false, false] (by kernel_rfl) rfl rfl ⟨(bC BK396.out 0).trans rfl, (bC BK396.out 1).trans rfl, (bC BK396.out 2).trans rfl, (bC BK396.out 3).trans rfl, (bC BK378.out 0).trans rfl, (bC BK378.out 1).trans rfl, (bC BK378.out 2).trans rfl, (bC BK378.out 3).trans rfl, (bC BK355.out 0).trans rfl, (bC BK355.out 1).trans rfl, (bC BK355.out 2).trans rfl, (bC BK355.out 3).trans rfl, (bC BK355.out 4).trans rfl, (bC BK370.out 0).trans rfl, (bC BK370.out 1).trans rfl, (bC BK370.out 2).trans rfl, (bC BK370.out 3).trans rfl, (bC BK370.out 4).trans rfl⟩ (fun hHeld => ?_); refine with_tabW stipendlaw10_KeepOrder.tab16 stipendlaw10_KeepOrder.bits16 (fun HT_ HW_ => ?_)
            generalize w102.drew = w103 at HO_371000 HO_371001 HO_371002 HO_379002 HO_387002 HO393 BK355 BK370 BK378 BK386 BK396 HB hHeld ⊢
            refine pure_ (i := 0) (N := some 67) (v := ?_) (a' := ?_) #[true, false, false, false, false, false, false, false, false, false, false, false, false, false, false, false, false, false, false, false, false, false, false, false] rfl rfl (any_of HT_.out (by kernel_rfl)) (fun _ _ _ h => h) (Or.inl ⟨by rfl, ?_⟩) ?_ ?_
            rotate_left
            · intro w'
              go_simp
              with_reducible rfl
            rotate_left
            · simp only [Act.put, List.setIfInBounds_toArray, List.set_cons_zero, List.set_cons_succ, i64_w, i32_w]
              rfl
            refine pure_ (i := 2) (N := some 69) (v := ?_) (a' := ?_) #[true, false, true, false, false, false, false, false, false, false, false, false, false, false, false, false, false, false, false, false, false, false, false, false] rfl rfl (any_of HT_.out (by kernel_rfl)) (fun _ _ _ h => h) (Or.inl ⟨by rfl, ?_⟩) ?_ ?_
            rotate_left
            · intro w'
              go_simp
              with_reducible rfl
            rotate_left
            · simp only [Act.put, List.setIfInBounds_toArray, List.set_cons_zero, List.set_cons_succ, i64_w, i32_w]
              rfl
            refine take_ (i := 1) (N := some 68) (v := ?_) (a' := ?_) #[true, true, true, false, false, false, false, false, false, false, false, false, false, false, false, false, false, false, false, false, false, false, false, false] rfl rfl (take_ofW HT_.out HW_.out (by kernel_rfl)) (fun _ _ _ h => h) (Or.inl ⟨by rfl, ?_⟩) hHeld ?_ ?_
            rotate_left
            · rintro w' ⟨s0, s1, s2, s3, s4, s5, s6, s7, s8, s9, s10, s11, s12, s13, s14, s15, s16, s17⟩
              go_simp
              with_reducible rfl
            rotate_left
            · simp only [Act.put, List.setIfInBounds_toArray, List.set_cons_zero, List.set_cons_succ, i64_w, i32_w]
              rfl
            refine take_ (i := 3) (N := some 70) (v := ?_) (a' := ?_) #[true, true, true, true, false, false, false, false, false, false, false, false, false, false, false, false, false, false, false, false, false, false, false, false] rfl rfl (take_ofW HT_.out HW_.out (by kernel_rfl)) (fun _ _ _ h => h) (Or.inl ⟨by rfl, ?_⟩) hHeld ?_ ?_
            rotate_left
            · rintro w' ⟨s0, s1, s2, s3, s4, s5, s6, s7, s8, s9, s10, s11, s12, s13, s14, s15, s16, s17⟩
              go_simp
              with_reducible rfl
            rotate_left
            · simp only [Act.put, List.setIfInBounds_toArray, List.set_cons_zero, List.set_cons_succ, i64_w, i32_w]
              rfl
            refine pure_ (i := 4) (N := some 71) (v := ?_) (a' := ?_) #[true, true, true, true, true, false, false, false, false, false, false, false, false, false, false, false, false, false, false, false, false, false, false, false] rfl rfl (any_of HT_.out (by kernel_rfl)) (fun _ _ _ h => h) (Or.inl ⟨by rfl, ?_⟩) ?_ ?_
            rotate_left
            · intro w'
              go_simp
              with_reducible rfl
            rotate_left
            · simp only [Act.put, List.setIfInBounds_toArray, List.set_cons_zero, List.set_cons_succ, i64_w, i32_w]
              rfl
            refine pure_ (i := 5) (N := some 72) (v := ?_) (a' := ?_) #[true, true, true, true, true, true, false, false, false, false, false, false, false, false, false, false, false, false, false, false, false, false, false, false] rfl rfl (any_of HT_.out (by kernel_rfl)) (fun _ _ _ h => h) (Or.inl ⟨by rfl, ?_⟩) ?_ ?_
            rotate_left
            · intro w'
              go_simp
              with_reducible rfl
            rotate_left
            · simp only [Act.put, List.setIfInBounds_toArray, List.set_cons_zero, List.set_cons_succ, i64_w, i32_w]
              rfl
            refine take_ (i := 6) (N := some 73) (v := ?_) (a' := ?_) #[true, true, true, true, true, true, true, false, false, false, false, false, false, false, false, false, false, false, false, false, false, false, false, false] rfl rfl (take_ofW HT_.out HW_.out (by kernel_rfl)) (fun _ _ _ h => h) (Or.inl ⟨by rfl, ?_⟩) hHeld ?_ ?_
            rotate_left
            · rintro w' ⟨s0, s1, s2, s3, s4, s5, s6, s7, s8, s9, s10, s11, s12, s13, s14, s15, s16, s17⟩
              go_simp
              with_reducible rfl
            rotate_left
            · simp only [Act.put, List.setIfInBounds_toArray, List.set_cons_zero, List.set_cons_succ, i64_w, i32_w]
              rfl
            refine one_ (i := 7) (N := some 74) #[true, true, true, true, true, true, true, true, false, false, false, false, false, false, false, false, false, false, false, false, false, false, false, false] rfl rfl (one_of HT_.out (by kernel_rfl)) (by decide) (fun K hK => ?_)
            refine goes_ Try.func9 (by kernel_rfl) rfl #[.agg #[.slice A0_0 l0_0.length c0_0, .slice A0_1 l0_1.length c0_1, .slice A0_2 l0_2.length c0_2, .int .i64 a0_3, .int .i64 a0_4]] (by rfl) rfl rfl (by (try simp only [List.map_toArray, List.map_cons, List.map_nil]); first | done | rfl | (simp only [List.length_drop, List.length_take]; rfl)) ?_
            with_reducible refine (keep_Check.calls kj19 _ _ l0_0 _ _ l0_1 _ _ l0_2 a0_3 a0_4 t397 _ ?side1 ?side2 ?side3 ?side4 ?side5 ?side6 A64.out).mono ?_
            (case side1 => repeat (first | exact (cB HR0_0.out HB.out) | (with_reducible refine cA ?_ _) | (with_reducible refine cD ?_ _) | (with_reducible refine c1_ ?_)))
            (case side2 => exact HC0_0.out)
            (case side3 => repeat (first | exact (cB HR0_1.out HB.out) | (with_reducible refine cA ?_ _) | (with_reducible refine cD ?_ _) | (with_reducible refine c1_ ?_)))
            (case side4 => exact HC0_1.out)
            (case side5 => repeat (first | exact (cB HR0_2.out HB.out) | (with_reducible refine cA ?_ _) | (with_reducible refine cD ?_ _) | (with_reducible refine c1_ ?_)))
            (case side6 => exact HC0_2.out)
            rintro e w104 ⟨rfl, hb⟩
            refine ⟨_, rfl, ?_⟩
            have n0_ := AM (Kd.N_below (by (with_reducible repeat (first | apply nA | apply nD | apply n1x)); exact HO_371000.out) hb)
            have n1_ := AM (Kd.N_below (by (with_reducible repeat (first | apply nA | apply nD | apply n1x)); exact HO_371001.out) hb)
            have n2_ := AM (Kd.R_below (by (with_reducible repeat (first | apply rA | apply rD | apply r1x)); exact HO_371002.out) hb)
            have n3_ := AM (Kd.R_below (by (with_reducible repeat (first | apply rA | apply rD | apply r1x)); exact HO_379002.out) hb)
            have n4_ := AM (Kd.R_below (by (with_reducible repeat (first | apply rA | apply rD | apply r1x)); exact HO_387002.out) hb)
            have n5_ := AM (Kd.R_below (by (with_reducible repeat (first | apply rA | apply rD | apply r1x)); exact HO393.out) hb)
            have n6_ := AM (kB (g := gb355) (o := .cells #[.slice A0_0 l0_0.length c0_0, .slice A0_1 l0_1.length c0_1, .slice A0_2 l0_2.length c0_2, .int .i64 a0_3, .int .i64 a0_4] 26 (0, 0)) (by (with_reducible repeat (first | refine kD ?_ _ | refine k1_ ?_ | refine kA ?_ _)); exact BK355.out) hb)
            have n7_ := AM (kB (g := gb370) (o := .cells #[.slice Ao24 t359.length co24, .slice Ad d362.length cd, .slice Ao28 t365.length co28, .int .i64 t368, .int .i64 t369] 26 (0, 0)) (by (with_reducible repeat (first | refine kD ?_ _ | refine k1_ ?_ | refine kA ?_ _)); exact BK370.out) hb)
            have n8_ := AM (kB (g := gb378) (o := .cells #[.int .i64 t371, .int .i64 t372, .slice Ao35 t373.length co35, .int .i64 t376] 33 (0, 0)) (by (with_reducible repeat (first | refine kD ?_ _ | refine k1_ ?_ | refine kA ?_ _)); exact BK378.out) hb)
            have n9_ := AM (kB (g := gb386) (o := .cells #[.int .i64 t379, .int .i64 t380, .slice Ao43 t381.length co43, .int .i64 t384] 33 (0, 0)) (by (with_reducible repeat (first | refine kD ?_ _ | refine k1_ ?_ | refine kA ?_ _)); exact BK386.out) hb)
            have n10_ := AM (kB (g := gb396) (o := .cells #[.int .i64 t389, .int .i64 t390, .slice Ao101 t391.length co101, .int .i64 t394] 33 (0, 0)) (by (with_reducible repeat (first | refine kD ?_ _ | refine k1_ ?_ | refine kA ?_ _)); exact BK396.out) hb)
            have n11_ := AM (bT (by repeat (first | (with_reducible first | exact HB.out | apply bA | apply bD | apply b1 | refine bS ?_ GE355.out | refine bS ?_ GE370.out | refine bS ?_ GE378.out | refine bS ?_ GE386.out | refine bS ?_ GE396.out) | exact HB.out)) hb)
            clear HO_371000
            clear HO_371001
            clear HO_371002
            clear HO_379002
            clear HO_387002
            clear HO393
            clear BK355
            clear BK370
            clear BK378
            clear BK386
            clear BK396
            clear HB
            have HO_371000 := n0_
            have HO_371001 := n1_
            have HO_371002 := n2_
            have HO_379002 := n3_
            have HO_387002 := n4_
            have HO393 := n5_
            have BK355 := n6_
            have BK370 := n7_
            have BK378 := n8_
            have BK386 := n9_
            have BK396 := n10_
            have HB := n11_
            clear n0_ n1_ n2_ n3_ n4_ n5_ n6_ n7_ n8_ n9_ n10_ n11_
            (try clear hb)
            (try clear hb2)
            (try clear hk)
            (try clear hi)
            refine hK.out _ _ ⟨(bC BK396.out 0).trans rfl, (bC BK396.out 1).trans rfl, (bC BK396.out 2).trans rfl, (bC BK396.out 3).trans rfl, (bC BK378.out 0).trans rfl, (bC BK378.out 1).trans rfl, (bC BK378.out 2).trans rfl, (bC BK378.out 3).trans rfl, (bC BK355.out 0).trans rfl, (bC BK355.out 1).trans rfl, (bC BK355.out 2).trans rfl, (bC BK355.out 3).trans rfl, (bC BK355.out 4).trans rfl, (bC BK370.out 0).trans rfl, (bC BK370.out 1).trans rfl, (bC BK370.out 2).trans rfl, (bC BK370.out 3).trans rfl, (bC BK370.out 4).trans rfl⟩ (fun hHeld => ?_)
            clear hK K
            refine norm_ (a' := ?_) ?_ ?_
            rotate_left
            · show Act.put _ (some 74) _ = _
              simp only [Act.put, List.setIfInBounds_toArray, List.set_cons_zero, List.set_cons_succ, i64_w, i32_w]
              rfl
            refine pure_ (i := 8) (N := some 75) (v := ?_) (a' := ?_) #[true, true, true, true, true, true, true, true, true, false, false, false, false, false, false, false, false, false, false, false, false, false, false, false] rfl rfl (any_of HT_.out (by kernel_rfl)) (fun _ _ _ h => h) (Or.inl ⟨by rfl, ?_⟩) ?_ ?_
            rotate_left
            · intro w'
              go_simp
              with_reducible rfl
            rotate_left
            · simp only [Act.put, List.setIfInBounds_toArray, List.set_cons_zero, List.set_cons_succ, i64_w, i32_w]
              rfl
            refine pure_ (i := 9) (N := some 76) (v := ?_) (a' := ?_) #[true, true, true, true, true, true, true, true, true, true, false, false, false, false, false, false, false, false, false, false, false, false, false, false] rfl rfl (any_of HT_.out (by kernel_rfl)) (fun _ _ _ h => h) (Or.inl ⟨by rfl, ?_⟩) ?_ ?_
            rotate_left
            · intro w'
              go_simp
              with_reducible rfl
            rotate_left
            · simp only [Act.put, List.setIfInBounds_toArray, List.set_cons_zero, List.set_cons_succ, i64_w, i32_w]
              rfl
            refine pure_ (i := 10) (N := some 77) (v := undef) (a' := ?_) #[true, true, true, true, true, true, true, true, true, true, true, false, false, false, false, false, false, false, false, false, false, false, false, false] rfl rfl (any_of HT_.out (by kernel_rfl)) (fun _ _ _ h => h) (Or.inr ⟨by rfl, rfl⟩) ?_ ?_
            rotate_left
            · simp only [Act.put, List.setIfInBounds_toArray, List.set_cons_zero, List.set_cons_succ, i64_w, i32_w]
              rfl
            refine pure_ (i := 11) (N := some 78) (v := undef) (a' := ?_) #[true, true, true, true, true, true, true, true, true, true, true, true, false, false, false, false, false, false, false, false, false, false, false, false] rfl rfl (any_of HT_.out (by kernel_rfl)) (fun _ _ _ h => h) (Or.inr ⟨by rfl, rfl⟩) ?_ ?_
            rotate_left
            · simp only [Act.put, List.setIfInBounds_toArray, List.set_cons_zero, List.set_cons_succ, i64_w, i32_w]
              rfl
            refine pure_ (i := 12) (N := some 79) (v := undef) (a' := ?_) #[true, true, true, true, true, true, true, true, true, true, true, true, true, false, false, false, false, false, false, false, false, false, false, false] rfl rfl (any_of HT_.out (by kernel_rfl)) (fun _ _ _ h => h) (Or.inr ⟨by rfl, rfl⟩) ?_ ?_
            rotate_left
            · simp only [Act.put, List.setIfInBounds_toArray, List.set_cons_zero, List.set_cons_succ, i64_w, i32_w]
              rfl
            refine pure_ (i := 13) (N := some 80) (v := ?_) (a' := ?_) #[true, true, true, true, true, true, true, true, true, true, true, true, true, true, false, false, false, false, false, false, false, false, false, false] rfl rfl (any_of HT_.out (by kernel_rfl)) (fun _ _ _ h => h) (Or.inl ⟨by rfl, ?_⟩) ?_ ?_
            rotate_left
            · intro w'
              go_simp
              with_reducible rfl
            rotate_left
            · simp only [Act.put, List.setIfInBounds_toArray, List.set_cons_zero, List.set_cons_succ, i64_w, i32_w]
              rfl
            refine pure_ (i := 14) (N := some 81) (v := ?_) (a' := ?_) #[true, true, true, true, true, true, true, true, true, true, true, true, true, true, true, false, false, false, false, false, false, false, false, false] rfl rfl (any_of HT_.out (by kernel_rfl)) (fun _ _ _ h => h) (Or.inl ⟨by rfl, ?_⟩) ?_ ?_
            rotate_left
            · intro w'
              go_simp
              with_reducible rfl
            rotate_left
            · simp only [Act.put, List.setIfInBounds_toArray, List.set_cons_zero, List.set_cons_succ, i64_w, i32_w]
              rfl
            refine pure_ (i := 15) (N := some 82) (v := ?_) (a' := ?_) #[true, true, true, true, true, true, true, true, true, true, true, true, true, true, true, true, false, false, false, false, false, false, false, false] rfl rfl (any_of HT_.out (by kernel_rfl)) (fun _ _ _ h => h) (Or.inl ⟨by rfl, ?_⟩) ?_ ?_
            rotate_left
            · intro w'
              go_simp
              with_reducible rfl
            rotate_left
            · simp only [Act.put, List.setIfInBounds_toArray, List.set_cons_zero, List.set_cons_succ, i64_w, i32_w]
              rfl
            refine take_ (i := 16) (N := some 83) (v := ?_) (a' := ?_) #[true, true, true, true, true, true, true, true, true, true, true, true, true, true, true, true, true, false, false, false, false, false, false, false] rfl rfl (take_ofW HT_.out HW_.out (by kernel_rfl)) (fun _ _ _ h => h) (Or.inl ⟨by rfl, ?_⟩) hHeld ?_ ?_
            rotate_left
            · rintro w' ⟨s0, s1, s2, s3, s4, s5, s6, s7, s8, s9, s10, s11, s12, s13, s14, s15, s16, s17⟩
              go_simp
              with_reducible rfl
            rotate_left
            · simp only [Act.put, List.setIfInBounds_toArray, List.set_cons_zero, List.set_cons_succ, i64_w, i32_w]
              rfl
            refine take_ (i := 18) (N := some 85) (v := ?_) (a' := ?_) #[true, true, true, true, true, true, true, true, true, true, true, true, true, true, true, true, true, false, true, false, false, false, false, false] rfl rfl (take_ofW HT_.out HW_.out (by kernel_rfl)) (fun _ _ _ h => h) (Or.inl ⟨by rfl, ?_⟩) hHeld ?_ ?_
            rotate_left
            · rintro w' ⟨s0, s1, s2, s3, s4, s5, s6, s7, s8, s9, s10, s11, s12, s13, s14, s15, s16, s17⟩
              go_simp
              with_reducible rfl
            rotate_left
            · simp only [Act.put, List.setIfInBounds_toArray, List.set_cons_zero, List.set_cons_succ, i64_w, i32_w]
              rfl
            refine one_ (i := 17) (N := some 84) #[true, true, true, true, true, true, true, true, true, true, true, true, true, true, true, true, true, true, true, false, false, false, false, false] rfl rfl (one_of HT_.out (by kernel_rfl)) (by decide) (fun K hK => ?_)
            refine goes_ Try.func14 (by kernel_rfl) rfl #[.agg #[.slice Ao24 t359.length co24, .slice Ad d362.length cd, .slice Ao28 t365.length co28, .int .i64 t368, .int .i64 t369]] (by rfl) rfl rfl (by (try simp only [List.map_toArray, List.map_cons, List.map_nil]); first | done | rfl | (simp only [List.length_drop, List.length_take]; rfl)) ?_
            with_reducible refine (keep_Components.calls _ _ t359 _ _ d362 _ _ t365 t368 t369 t401 _ ?side1 ?side2 ?side3 ?side4 ?side5 ?side6 A88.out).mono ?_
            (case side1 => repeat (first | exact (Kd.N_reads' HO_371000.out).2.2 | (with_reducible refine cA ?_ _) | (with_reducible refine cD ?_ _) | (with_reducible refine c1_ ?_)))
            (case side2 => exact (Kd.N_reads' HO_371000.out).2.1)
            (case side3 => repeat (first | exact HCdrop.out _ (Kd.N_reads' HO_371001.out).2.2 | (with_reducible refine cA ?_ _) | (with_reducible refine cD ?_ _) | (with_reducible refine c1_ ?_)))
            (case side4 => exact HCd.out)
            (case side5 => repeat (first | exact (Kd.R_reads' HO_371002.out).2.2 | (with_reducible refine cA ?_ _) | (with_reducible refine cD ?_ _) | (with_reducible refine c1_ ?_)))
            (case side6 => exact (Kd.R_reads' HO_371002.out).2.1)
            rintro e w105 ⟨rfl, hb⟩
            refine ⟨_, rfl, ?_⟩
            have n0_ := AM (Kd.N_below (by (with_reducible repeat (first | apply nA | apply nD | apply n1x)); exact HO_371000.out) hb)
            have n1_ := AM (Kd.N_below (by (with_reducible repeat (first | apply nA | apply nD | apply n1x)); exact HO_371001.out) hb)
            have n2_ := AM (Kd.R_below (by (with_reducible repeat (first | apply rA | apply rD | apply r1x)); exact HO_371002.out) hb)
            have n3_ := AM (Kd.R_below (by (with_reducible repeat (first | apply rA | apply rD | apply r1x)); exact HO_379002.out) hb)
            have n4_ := AM (Kd.R_below (by (with_reducible repeat (first | apply rA | apply rD | apply r1x)); exact HO_387002.out) hb)
            have n5_ := AM (Kd.R_below (by (with_reducible repeat (first | apply rA | apply rD | apply r1x)); exact HO393.out) hb)
            have n6_ := AM (kB (g := gb355) (o := .cells #[.slice A0_0 l0_0.length c0_0, .slice A0_1 l0_1.length c0_1, .slice A0_2 l0_2.length c0_2, .int .i64 a0_3, .int .i64 a0_4] 26 (0, 0)) (by (with_reducible repeat (first | refine kD ?_ _ | refine k1_ ?_ | refine kA ?_ _)); exact BK355.out) hb)
            have n7_ := AM (kB (g := gb370) (o := .cells #[.slice Ao24 t359.length co24, .slice Ad d362.length cd, .slice Ao28 t365.length co28, .int .i64 t368, .int .i64 t369] 26 (0, 0)) (by (with_reducible repeat (first | refine kD ?_ _ | refine k1_ ?_ | refine kA ?_ _)); exact BK370.out) hb)
            have n8_ := AM (kB (g := gb378) (o := .cells #[.int .i64 t371, .int .i64 t372, .slice Ao35 t373.length co35, .int .i64 t376] 33 (0, 0)) (by (with_reducible repeat (first | refine kD ?_ _ | refine k1_ ?_ | refine kA ?_ _)); exact BK378.out) hb)
            have n9_ := AM (kB (g := gb386) (o := .cells #[.int .i64 t379, .int .i64 t380, .slice Ao43 t381.length co43, .int .i64 t384] 33 (0, 0)) (by (with_reducible repeat (first | refine kD ?_ _ | refine k1_ ?_ | refine kA ?_ _)); exact BK386.out) hb)
            have n10_ := AM (kB (g := gb396) (o := .cells #[.int .i64 t389, .int .i64 t390, .slice Ao101 t391.length co101, .int .i64 t394] 33 (0, 0)) (by (with_reducible repeat (first | refine kD ?_ _ | refine k1_ ?_ | refine kA ?_ _)); exact BK396.out) hb)
            have n11_ := AM (bT (by repeat (first | (with_reducible first | exact HB.out | apply bA | apply bD | apply b1 | refine bS ?_ GE355.out | refine bS ?_ GE370.out | refine bS ?_ GE378.out | refine bS ?_ GE386.out | refine bS ?_ GE396.out) | exact HB.out)) hb)
            clear HO_371000
            clear HO_371001
            clear HO_371002
            clear HO_379002
            clear HO_387002
            clear HO393
            clear BK355
            clear BK370
            clear BK378
            clear BK386
            clear BK396
            clear HB
            have HO_371000 := n0_
            have HO_371001 := n1_
            have HO_371002 := n2_
            have HO_379002 := n3_
            have HO_387002 := n4_
            have HO393 := n5_
            have BK355 := n6_
            have BK370 := n7_
            have BK378 := n8_
            have BK386 := n9_
            have BK396 := n10_
            have HB := n11_
            clear n0_ n1_ n2_ n3_ n4_ n5_ n6_ n7_ n8_ n9_ n10_ n11_
            (try clear hb)
            (try clear hb2)
            (try clear hk)
            (try clear hi)
            refine hK.out _ _ ⟨(bC BK396.out 0).trans rfl, (bC BK396.out 1).trans rfl, (bC BK396.out 2).trans rfl, (bC BK396.out 3).trans rfl, (bC BK378.out 0).trans rfl, (bC BK378.out 1).trans rfl, (bC BK378.out 2).trans rfl, (bC BK378.out 3).trans rfl, (bC BK355.out 0).trans rfl, (bC BK355.out 1).trans rfl, (bC BK355.out 2).trans rfl, (bC BK355.out 3).trans rfl, (bC BK355.out 4).trans rfl, (bC BK370.out 0).trans rfl, (bC BK370.out 1).trans rfl, (bC BK370.out 2).trans rfl, (bC BK370.out 3).trans rfl, (bC BK370.out 4).trans rfl⟩ (fun hHeld => ?_)
            clear hK K
            refine norm_ (a' := ?_) ?_ ?_
            rotate_left
            · show Act.put _ (some 84) _ = _
              simp only [Act.put, List.setIfInBounds_toArray, List.set_cons_zero, List.set_cons_succ, i64_w, i32_w]
              rfl
            refine one_ (i := 19) (N := some 86) #[true, true, true, true, true, true, true, true, true, true, true, true, true, true, true, true, true, true, true, true, false, false, false, false] rfl rfl (one_of HT_.out (by kernel_rfl)) (by decide) (fun K hK => ?_)
            refine goes_ Try.func14 (by kernel_rfl) rfl #[.agg #[.slice A0_0 l0_0.length c0_0, .slice A0_1 l0_1.length c0_1, .slice A0_2 l0_2.length c0_2, .int .i64 a0_3, .int .i64 a0_4]] (by rfl) rfl rfl (by (try simp only [List.map_toArray, List.map_cons, List.map_nil]); first | done | rfl | (simp only [List.length_drop, List.length_take]; rfl)) ?_
            with_reducible refine (keep_Components.calls _ _ l0_0 _ _ l0_1 _ _ l0_2 a0_3 a0_4 t402 _ ?side1 ?side2 ?side3 ?side4 ?side5 ?side6 A89.out).mono ?_
            (case side1 => repeat (first | exact (cB HR0_0.out HB.out) | (with_reducible refine cA ?_ _) | (with_reducible refine cD ?_ _) | (with_reducible refine c1_ ?_)))
            (case side2 => exact HC0_0.out)
            (case side3 => repeat (first | exact (cB HR0_1.out HB.out) | (with_reducible refine cA ?_ _) | (with_reducible refine cD ?_ _) | (with_reducible refine c1_ ?_)))
            (case side4 => exact HC0_1.out)
            (case side5 => repeat (first | exact (cB HR0_2.out HB.out) | (with_reducible refine cA ?_ _) | (with_reducible refine cD ?_ _) | (with_reducible refine c1_ ?_)))
            (case side6 => exact HC0_2.out)
            rintro e w106 ⟨rfl, hb⟩
            refine ⟨_, rfl, ?_⟩
            have n0_ := AM (Kd.N_below (by (with_reducible repeat (first | apply nA | apply nD | apply n1x)); exact HO_371000.out) hb)
            have n1_ := AM (Kd.N_below (by (with_reducible repeat (first | apply nA | apply nD | apply n1x)); exact HO_371001.out) hb)
            have n2_ := AM (Kd.R_below (by (with_reducible repeat (first | apply rA | apply rD | apply r1x)); exact HO_371002.out) hb)
            have n3_ := AM (Kd.R_below (by (with_reducible repeat (first | apply rA | apply rD | apply r1x)); exact HO_379002.out) hb)
            have n4_ := AM (Kd.R_below (by (with_reducible repeat (first | apply rA | apply rD | apply r1x)); exact HO_387002.out) hb)
            have n5_ := AM (Kd.R_below (by (with_reducible repeat (first | apply rA | apply rD | apply r1x)); exact HO393.out) hb)
            have n6_ := AM (kB (g := gb355) (o := .cells #[.slice A0_0 l0_0.length c0_0, .slice A0_1 l0_1.length c0_1, .slice A0_2 l0_2.length c0_2, .int .i64 a0_3, .int .i64 a0_4] 26 (0, 0)) (by (with_reducible repeat (first | refine kD ?_ _ | refine k1_ ?_ | refine kA ?_ _)); exact BK355.out) hb)
            have n7_ := AM (kB (g := gb370) (o := .cells #[.slice Ao24 t359.length co24, .slice Ad d362.length cd, .slice Ao28 t365.length co28, .int .i64 t368, .int .i64 t369] 26 (0, 0)) (by (with_reducible repeat (first | refine kD ?_ _ | refine k1_ ?_ | refine kA ?_ _)); exact BK370.out) hb)
            have n8_ := AM (kB (g := gb378) (o := .cells #[.int .i64 t371, .int .i64 t372, .slice Ao35 t373.length co35, .int .i64 t376] 33 (0, 0)) (by (with_reducible repeat (first | refine kD ?_ _ | refine k1_ ?_ | refine kA ?_ _)); exact BK378.out) hb)
            have n9_ := AM (kB (g := gb386) (o := .cells #[.int .i64 t379, .int .i64 t380, .slice Ao43 t381.length co43, .int .i64 t384] 33 (0, 0)) (by (with_reducible repeat (first | refine kD ?_ _ | refine k1_ ?_ | refine kA ?_ _)); exact BK386.out) hb)
            have n10_ := AM (kB (g := gb396) (o := .cells #[.int .i64 t389, .int .i64 t390, .slice Ao101 t391.length co101, .int .i64 t394] 33 (0, 0)) (by (with_reducible repeat (first | refine kD ?_ _ | refine k1_ ?_ | refine kA ?_ _)); exact BK396.out) hb)
            have n11_ := AM (bT (by repeat (first | (with_reducible first | exact HB.out | apply bA | apply bD | apply b1 | refine bS ?_ GE355.out | refine bS ?_ GE370.out | refine bS ?_ GE378.out | refine bS ?_ GE386.out | refine bS ?_ GE396.out) | exact HB.out)) hb)
            clear HO_371000
            clear HO_371001
            clear HO_371002
            clear HO_379002
            clear HO_387002
            clear HO393
            clear BK355
            clear BK370
            clear BK378
            clear BK386
            clear BK396
            clear HB
            have HO_371000 := n0_
            have HO_371001 := n1_
            have HO_371002 := n2_
            have HO_379002 := n3_
            have HO_387002 := n4_
            have HO393 := n5_
            have BK355 := n6_
            have BK370 := n7_
            have BK378 := n8_
            have BK386 := n9_
            have BK396 := n10_
            have HB := n11_
            clear n0_ n1_ n2_ n3_ n4_ n5_ n6_ n7_ n8_ n9_ n10_ n11_
            (try clear hb)
            (try clear hb2)
            (try clear hk)
            (try clear hi)
            refine hK.out _ _ ⟨(bC BK396.out 0).trans rfl, (bC BK396.out 1).trans rfl, (bC BK396.out 2).trans rfl, (bC BK396.out 3).trans rfl, (bC BK378.out 0).trans rfl, (bC BK378.out 1).trans rfl, (bC BK378.out 2).trans rfl, (bC BK378.out 3).trans rfl, (bC BK355.out 0).trans rfl, (bC BK355.out 1).trans rfl, (bC BK355.out 2).trans rfl, (bC BK355.out 3).trans rfl, (bC BK355.out 4).trans rfl, (bC BK370.out 0).trans rfl, (bC BK370.out 1).trans rfl, (bC BK370.out 2).trans rfl, (bC BK370.out 3).trans rfl, (bC BK370.out 4).trans rfl⟩ (fun hHeld => ?_)
            clear hK K
            refine norm_ (a' := ?_) ?_ ?_
            rotate_left
            · show Act.put _ (some 86) _ = _
              simp only [Act.put, List.setIfInBounds_toArray, List.set_cons_zero, List.set_cons_succ, i64_w, i32_w]
              rfl
            refine pure_ (i := 20) (N := some 87) (v := ?_) (a' := ?_) #[true, true, true, true, true, true, true, true, true, true, true, true, true, true, true, true, true, true, true, true, true, false, false, false] rfl rfl (any_of HT_.out (by kernel_rfl)) (fun _ _ _ h => h) (Or.inl ⟨by rfl, ?_⟩) ?_ ?_
            rotate_left
            · intro w'
              go_simp
              with_reducible rfl
            rotate_left
            · simp only [Act.put, List.setIfInBounds_toArray, List.set_cons_zero, List.set_cons_succ, i64_w, i32_w]
              rfl
            refine pure_ (i := 21) (N := some 88) (v := ?_) (a' := ?_) #[true, true, true, true, true, true, true, true, true, true, true, true, true, true, true, true, true, true, true, true, true, true, false, false] rfl rfl (any_of HT_.out (by kernel_rfl)) (fun _ _ _ h => h) (Or.inl ⟨by rfl, ?_⟩) ?_ ?_
            rotate_left
            · intro w'
              go_simp
              with_reducible rfl
            rotate_left
            · simp only [Act.put, List.setIfInBounds_toArray, List.set_cons_zero, List.set_cons_succ, i64_w, i32_w]
              rfl
            refine pure_ (i := 22) (N := some 89) (v := ?_) (a' := ?_) #[true, true, true, true, true, true, true, true, true, true, true, true, true, true, true, true, true, true, true, true, true, true, true, false] rfl rfl (any_of HT_.out (by kernel_rfl)) (fun _ _ _ h => h) (Or.inl ⟨by rfl, ?_⟩) ?_ ?_
            rotate_left
            · intro w'
              go_simp
              with_reducible rfl
            rotate_left
            · simp only [Act.put, List.setIfInBounds_toArray, List.set_cons_zero, List.set_cons_succ, i64_w, i32_w]
              rfl
            refine pure_ (i := 23) (N := some 2) (v := ?_) (a' := ?_) #[true, true, true, true, true, true, true, true, true, true, true, true, true, true, true, true, true, true, true, true, true, true, true, true] rfl rfl (any_of HT_.out (by kernel_rfl)) (fun _ _ _ h => h) (Or.inl ⟨by rfl, ?_⟩) ?_ ?_
            rotate_left
            · intro w'
              go_simp
              with_reducible rfl
            rotate_left
            · simp only [Act.put, List.setIfInBounds_toArray, List.set_cons_zero, List.set_cons_succ, i64_w, i32_w]
              rfl
            refine done_ (done_of HT_.out (by kernel_rfl)) ?_
            try go_wp2
            go_ret
            exact ⟨by first | rfl | (simp [errW_none, errW_some] <;> rfl) | (simp [*, errW_none, errW_some] <;> rfl), by repeat (first | (with_reducible first | exact HB.out | apply bA | apply bD | apply b1 | refine bS ?_ GE355.out | refine bS ?_ GE370.out | refine bS ?_ GE378.out | refine bS ?_ GE386.out | refine bS ?_ GE396.out) | exact HB.out)⟩
          rw [if_pos c65] at H
          have c65b0 : (t397 == 0) = true := beq_iff_eq.mpr c65
          have c65b1 : (t397 != 0) = false := bne_eq_false_iff_eq.mpr c65
          clear c65
          replace H := Option.bind_eq_some_iff.mp H
          obtain ⟨t398, A660, H⟩ := H
          replace H : (if t398 = 0 then ((keep_Components.f t359 d362 t365 t368 t369).bind fun t399 => ((keep_Components.f l0_0 l0_1 l0_2 a0_3 a0_4).bind fun t400 => (some (t399 == (wrap64 (t400 - 1)))))) else (some false)) = some r := H
          have A66 := AM A660
          clear A660
          by_cases c67 : t398 = 0
          rotate_left
          · rw [if_neg c67] at H
            have c67b0 : (t398 == 0) = false := beq_eq_false_iff_ne.mpr c67
            have c67b1 : (t398 != 0) = true := bne_iff_ne.mpr c67
            exact absurd (Option.some.inj H) (by rw [HRT.out]; decide)
          rw [if_pos c67] at H
          have c67b0 : (t398 == 0) = true := beq_iff_eq.mpr c67
          have c67b1 : (t398 != 0) = false := bne_eq_false_iff_eq.mpr c67
          clear c67
          replace H := Option.bind_eq_some_iff.mp H
          obtain ⟨t399, A680, H⟩ := H
          replace H : ((keep_Components.f l0_0 l0_1 l0_2 a0_3 a0_4).bind fun t400 => (some (t399 == (wrap64 (t400 - 1))))) = some r := H
          have A68 := AM A680
          clear A680
          replace H := Option.bind_eq_some_iff.mp H
          obtain ⟨t400, A690, H⟩ := H
          replace H : (some (t399 == (wrap64 (t400 - 1)))) = some r := H
          have A69 := AM A690
          clear A690
          obtain rfl := Option.some.inj H
          have hnb70 := NB370_355.out
          have hnc70 := NB355_370.out
          have hnb71 := NB370_378.out
          have hnc71 := NB378_370.out
          have hnb72 := NB370_386.out
          have hnc72 := NB386_370.out
          have hcz73_0 : w57.cell? ⟨gb370, 0, none⟩ = some (.slice Ao24 t359.length co24) := (bC BK370.out 0).trans rfl
          have hcz73_1 : w57.cell? ⟨gb370, 1, none⟩ = some (.slice Ad d362.length cd) := (bC BK370.out 1).trans rfl
          have hcz73_2 : w57.cell? ⟨gb370, 2, none⟩ = some (.slice Ao28 t365.length co28) := (bC BK370.out 2).trans rfl
          have hcz73_3 : w57.cell? ⟨gb370, 3, none⟩ = some (.int .i64 t368) := (bC BK370.out 3).trans rfl
          have hcz73_4 : w57.cell? ⟨gb370, 4, none⟩ = some (.int .i64 t369) := (bC BK370.out 4).trans rfl
          have hfz73_0 := bF BK370.out 0
          have hfz73_1 := bF BK370.out 1
          have hfz73_2 := bF BK370.out 2
          have hfz73_3 := bF BK370.out 3
          have hfz73_4 := bF BK370.out 4
          try go_wp2_with (first | ((with_reducible refine gC (f := 11) rfl ?_); refine gL (some 64) rfl rfl Try.func11 (by kernel_rfl) rfl #[.agg #[.slice Ao24 t359.length co24, .slice Ad d362.length cd, .slice Ao28 t365.length co28, .int .i64 t368, .int .i64 t369]] rfl (by (try simp only [List.map_toArray, List.map_cons, List.map_nil]); first | done | rfl | (simp only [List.length_drop, List.length_take]; rfl)) ?_; (with_reducible refine (keep_Worst.calls kj19 _ _ t359 _ _ d362 _ _ t365 t368 t369 t389 t390 t391 t394 t395 _ ?side1 ?side2 ?side3 ?side4 ?side5 ?side6 A62.out).mono ?_); (case side1 => repeat (first | exact (Kd.N_reads' HO_371000.out).2.2 | (with_reducible refine cA ?_ _) | (with_reducible refine cD ?_ _) | (with_reducible refine c1_ ?_))); (case side2 => exact (Kd.N_reads' HO_371000.out).2.1); (case side3 => repeat (first | exact HCdrop.out _ (Kd.N_reads' HO_371001.out).2.2 | (with_reducible refine cA ?_ _) | (with_reducible refine cD ?_ _) | (with_reducible refine c1_ ?_))); (case side4 => exact HCd.out); (case side5 => repeat (first | exact (Kd.R_reads' HO_371002.out).2.2 | (with_reducible refine cA ?_ _) | (with_reducible refine cD ?_ _) | (with_reducible refine c1_ ?_))); (case side6 => exact (Kd.R_reads' HO_371002.out).2.1); rintro e w74 ⟨v392, rfl, ho0, hb⟩; refine ⟨_, rfl, ?_⟩; have n0_ := AM (Kd.N_elder' (by (with_reducible repeat (first | apply nA | apply nD | apply n1x)); exact HO_371000.out) (Kd.R_base ho0) hb); have n1_ := AM (Kd.N_elder' (by (with_reducible repeat (first | apply nA | apply nD | apply n1x)); exact HO_371001.out) (Kd.R_base ho0) hb); have n2_ := AM (Kd.R_below (by (with_reducible repeat (first | apply rA | apply rD | apply r1x)); exact HO_371002.out) hb); have n3_ := AM (Kd.R_elder' (by (with_reducible repeat (first | apply rA | apply rD | apply r1x)); exact HO_379002.out) (Kd.R_base ho0) hb); have n4_ := AM (Kd.R_elder' (by (with_reducible repeat (first | apply rA | apply rD | apply r1x)); exact HO_387002.out) (Kd.R_base ho0) hb); have n5_ := AM (Kd.R_lower (Kd.R_new' (Kd.R_new' ho0 (Kd.R_lt (by (with_reducible repeat (first | apply rA | apply rD | apply r1x)); exact HO_379002.out))) (Kd.R_lt (by (with_reducible repeat (first | apply rA | apply rD | apply r1x)); exact HO_387002.out))) (bZ (by repeat (first | (with_reducible first | exact HB.out | apply bA | apply bD | apply b1 | refine bS ?_ GE355.out | refine bS ?_ GE370.out | refine bS ?_ GE378.out | refine bS ?_ GE386.out) | exact HB.out)))); have n6_ := AM (kB (g := gb355) (o := .cells #[.slice A0_0 l0_0.length c0_0, .slice A0_1 l0_1.length c0_1, .slice A0_2 l0_2.length c0_2, .int .i64 a0_3, .int .i64 a0_4] 26 (0, 0)) (by (with_reducible repeat (first | refine kD ?_ _ | refine k1_ ?_ | refine kA ?_ _)); exact BK355.out) hb); have n7_ := AM (kB (g := gb370) (o := .cells #[.slice Ao24 t359.length co24, .slice Ad d362.length cd, .slice Ao28 t365.length co28, .int .i64 t368, .int .i64 t369] 26 (0, 0)) (by (with_reducible repeat (first | refine kD ?_ _ | refine k1_ ?_ | refine kA ?_ _)); exact BK370.out) hb); have n8_ := AM (kB (g := gb378) (o := .cells #[.int .i64 t371, .int .i64 t372, .slice Ao35 t373.length co35, .int .i64 t376] 33 (0, 0)) (by (with_reducible repeat (first | refine kD ?_ _ | refine k1_ ?_ | refine kA ?_ _)); exact BK378.out) hb); have n9_ := AM (kB (g := gb386) (o := .cells #[.int .i64 t379, .int .i64 t380, .slice Ao43 t381.length co43, .int .i64 t384] 33 (0, 0)) (by (with_reducible repeat (first | refine kD ?_ _ | refine k1_ ?_ | refine kA ?_ _)); exact BK386.out) hb); have n10_ := AM (bT (by repeat (first | (with_reducible first | exact HB.out | apply bA | apply bD | apply b1 | refine bS ?_ GE355.out | refine bS ?_ GE370.out | refine bS ?_ GE378.out | refine bS ?_ GE386.out) | exact HB.out)) hb); clear HO_371000; clear HO_371001; clear HO_371002; clear HO_379002; clear HO_387002; clear BK355; clear BK370; clear BK378; clear BK386; clear HB; have HO_371000 := n0_; have HO_371001 := n1_; have HO_371002 := n2_; have HO_379002 := n3_; have HO_387002 := n4_; have HO393 := n5_; have BK355 := n6_; have BK370 := n7_; have BK378 := n8_; have BK386 := n9_; have HB := n10_; clear n0_ n1_ n2_ n3_ n4_ n5_ n6_ n7_ n8_ n9_ n10_; (try clear hb); (try clear hb2); (try clear hk); (try clear hi); (try clear ho0)) | ((with_reducible refine gD (N := 8) rfl ?_); refine bE ?hg (N := 8) ?hd (cs := #[.int .i64 0, .int .i64 0, .slice none 0 0, .int .i64 0]) (t := 33) ?hr ?_; (case hd => rfl); (case hg => rfl); (case hr => first | (go_simp; done) | (go_simp; rfl)); intro gb396 hg w75 hbox hb; have n0_ := AM (Kd.N_below (Kd.N_elderB (by (with_reducible repeat (first | apply nA | apply nD | apply n1x)); exact HO_371000.out) gb396 (Nat.le_of_eq hg.symm)) hb); have n1_ := AM (Kd.N_below (Kd.N_elderB (by (with_reducible repeat (first | apply nA | apply nD | apply n1x)); exact HO_371001.out) gb396 (Nat.le_of_eq hg.symm)) hb); have n2_ := AM (Kd.R_below (by (with_reducible repeat (first | apply rA | apply rD | apply r1x)); exact HO_371002.out) hb); have n3_ := AM (Kd.R_below (by (with_reducible repeat (first | apply rA | apply rD | apply r1x)); exact HO_379002.out) hb); have n4_ := AM (Kd.R_below (by (with_reducible repeat (first | apply rA | apply rD | apply r1x)); exact HO_387002.out) hb); have n5_ := AM (Kd.R_below (by (with_reducible repeat (first | apply rA | apply rD | apply r1x)); exact HO393.out) hb); have n6_ := AM (kB (g := gb355) (o := .cells #[.slice A0_0 l0_0.length c0_0, .slice A0_1 l0_1.length c0_1, .slice A0_2 l0_2.length c0_2, .int .i64 a0_3, .int .i64 a0_4] 26 (0, 0)) (by (with_reducible repeat (first | refine kD ?_ _ | refine k1_ ?_ | refine kA ?_ _)); exact BK355.out) hb); have n7_ := AM (kB (g := gb370) (o := .cells #[.slice Ao24 t359.length co24, .slice Ad d362.length cd, .slice Ao28 t365.length co28, .int .i64 t368, .int .i64 t369] 26 (0, 0)) (by (with_reducible repeat (first | refine kD ?_ _ | refine k1_ ?_ | refine kA ?_ _)); exact BK370.out) hb); have n8_ := AM (kB (g := gb378) (o := .cells #[.int .i64 t371, .int .i64 t372, .slice Ao35 t373.length co35, .int .i64 t376] 33 (0, 0)) (by (with_reducible repeat (first | refine kD ?_ _ | refine k1_ ?_ | refine kA ?_ _)); exact BK378.out) hb); have n9_ := AM (kB (g := gb386) (o := .cells #[.int .i64 t379, .int .i64 t380, .slice Ao43 t381.length co43, .int .i64 t384] 33 (0, 0)) (by (with_reducible repeat (first | refine kD ?_ _ | refine k1_ ?_ | refine kA ?_ _)); exact BK386.out) hb); have n10_ := AM (bT (by repeat (first | (with_reducible first | exact HB.out | apply bA | apply bD | apply b1 | refine bS ?_ GE355.out | refine bS ?_ GE370.out | refine bS ?_ GE378.out | refine bS ?_ GE386.out) | exact HB.out)) hb); have n11_ := AM (hbox); have n12_ := AM ((by rw [hg]; exact (bZ (by repeat (first | (with_reducible first | exact HB.out | apply bA | apply bD | apply b1 | refine bS ?_ GE355.out | refine bS ?_ GE370.out | refine bS ?_ GE378.out | refine bS ?_ GE386.out) | exact HB.out))) : w.heap.size ≤ gb396)); have n13_ := AM ((by rw [hg]; exact (bZ (by repeat (first | (with_reducible first | exact HB.out | apply bA | apply bD | apply b1 | refine bS ?_ GE355.out | refine bS ?_ GE370.out | refine bS ?_ GE378.out | refine bS ?_ GE386.out) | exact HB.out))) : w.heap.size ≤ gb396)); have n14_ := AM ((by rw [hg]; exact Nat.ne_of_lt (blk_lt (g := gb355) (o := .cells #[.slice A0_0 l0_0.length c0_0, .slice A0_1 l0_1.length c0_1, .slice A0_2 l0_2.length c0_2, .int .i64 a0_3, .int .i64 a0_4] 26 (0, 0)) (by (with_reducible repeat (first | refine kD ?_ _ | refine k1_ ?_ | refine kA ?_ _)); exact BK355.out)) : gb355 ≠ gb396)); have n15_ := AM ((by rw [hg]; exact Nat.ne_of_gt (blk_lt (g := gb355) (o := .cells #[.slice A0_0 l0_0.length c0_0, .slice A0_1 l0_1.length c0_1, .slice A0_2 l0_2.length c0_2, .int .i64 a0_3, .int .i64 a0_4] 26 (0, 0)) (by (with_reducible repeat (first | refine kD ?_ _ | refine k1_ ?_ | refine kA ?_ _)); exact BK355.out)) : gb396 ≠ gb355)); have n16_ := AM ((by rw [hg]; exact Nat.ne_of_lt (blk_lt (g := gb370) (o := .cells #[.slice Ao24 t359.length co24, .slice Ad d362.length cd, .slice Ao28 t365.length co28, .int .i64 t368, .int .i64 t369] 26 (0, 0)) (by (with_reducible repeat (first | refine kD ?_ _ | refine k1_ ?_ | refine kA ?_ _)); exact BK370.out)) : gb370 ≠ gb396)); have n17_ := AM ((by rw [hg]; exact Nat.ne_of_gt (blk_lt (g := gb370) (o := .cells #[.slice Ao24 t359.length co24, .slice Ad d362.length cd, .slice Ao28 t365.length co28, .int .i64 t368, .int .i64 t369] 26 (0, 0)) (by (with_reducible repeat (first | refine kD ?_ _ | refine k1_ ?_ | refine kA ?_ _)); exact BK370.out)) : gb396 ≠ gb370)); have n18_ := AM ((by rw [hg]; exact Nat.ne_of_lt (blk_lt (g := gb378) (o := .cells #[.int .i64 t371, .int .i64 t372, .slice Ao35 t373.length co35, .int .i64 t376] 33 (0, 0)) (by (with_reducible repeat (first | refine kD ?_ _ | refine k1_ ?_ | refine kA ?_ _)); exact BK378.out)) : gb378 ≠ gb396)); have n19_ := AM ((by rw [hg]; exact Nat.ne_of_gt (blk_lt (g := gb378) (o := .cells #[.int .i64 t371, .int .i64 t372, .slice Ao35 t373.length co35, .int .i64 t376] 33 (0, 0)) (by (with_reducible repeat (first | refine kD ?_ _ | refine k1_ ?_ | refine kA ?_ _)); exact BK378.out)) : gb396 ≠ gb378)); have n20_ := AM ((by rw [hg]; exact Nat.ne_of_lt (blk_lt (g := gb386) (o := .cells #[.int .i64 t379, .int .i64 t380, .slice Ao43 t381.length co43, .int .i64 t384] 33 (0, 0)) (by (with_reducible repeat (first | refine kD ?_ _ | refine k1_ ?_ | refine kA ?_ _)); exact BK386.out)) : gb386 ≠ gb396)); have n21_ := AM ((by rw [hg]; exact Nat.ne_of_gt (blk_lt (g := gb386) (o := .cells #[.int .i64 t379, .int .i64 t380, .slice Ao43 t381.length co43, .int .i64 t384] 33 (0, 0)) (by (with_reducible repeat (first | refine kD ?_ _ | refine k1_ ?_ | refine kA ?_ _)); exact BK386.out)) : gb396 ≠ gb386)); clear HO_371000; clear HO_371001; clear HO_371002; clear HO_379002; clear HO_387002; clear HO393; clear BK355; clear BK370; clear BK378; clear BK386; clear HB; have HO_371000 := n0_; have HO_371001 := n1_; have HO_371002 := n2_; have HO_379002 := n3_; have HO_387002 := n4_; have HO393 := n5_; have BK355 := n6_; have BK370 := n7_; have BK378 := n8_; have BK386 := n9_; have HB := n10_; have BK396 := n11_; have GW396 := n12_; have GE396 := n13_; have NB355_396 := n14_; have NB396_355 := n15_; have NB370_396 := n16_; have NB396_370 := n17_; have NB378_396 := n18_; have NB396_378 := n19_; have NB386_396 := n20_; have NB396_386 := n21_; clear n0_ n1_ n2_ n3_ n4_ n5_ n6_ n7_ n8_ n9_ n10_ n11_ n12_ n13_ n14_ n15_ n16_ n17_ n18_ n19_ n20_ n21_; clear hb hbox hg; have hnb76 := NB396_355.out; have hnc76 := NB355_396.out; have hnb77 := NB396_370.out; have hnc77 := NB370_396.out; have hnb78 := NB396_378.out; have hnc78 := NB378_396.out; have hnb79 := NB396_386.out; have hnc79 := NB386_396.out; have hcz80_0 : w75.cell? ⟨gb396, 0, none⟩ = some (.int .i64 0) := (bC BK396.out 0).trans rfl; have hcz80_1 : w75.cell? ⟨gb396, 1, none⟩ = some (.int .i64 0) := (bC BK396.out 1).trans rfl; have hcz80_2 : w75.cell? ⟨gb396, 2, none⟩ = some (.slice none 0 0) := (bC BK396.out 2).trans rfl; have hcz80_3 : w75.cell? ⟨gb396, 3, none⟩ = some (.int .i64 0) := (bC BK396.out 3).trans rfl; have hfz80_0 := bF BK396.out 0; have hfz80_1 := bF BK396.out 1; have hfz80_2 := bF BK396.out 2; have hfz80_3 := bF BK396.out 3; obtain ⟨Ao81, co81, eo81⟩ := Kd.R_slice HO393.out; subst eo81))
          have n0_ : Aside0 (Kd.N (Kd.slice 41 k41) 39 ((((w75.setCell ⟨gb396, 0, none⟩ (.int .i64 t389)).setCell ⟨gb396, 1, none⟩ (.int .i64 t390)).setCell ⟨gb396, 2, none⟩ (.slice Ao81 t391.length co81)).setCell ⟨gb396, 3, none⟩ (.int .i64 t394)) w.heap.size (fun k_ => some k_ ≠ (.slice Ao27 t362.length co27 : Value).ownBlock ∧ some k_ ≠ (.slice Ao28 t365.length co28 : Value).ownBlock ∧ some k_ ≠ (.slice Ao35 t373.length co35 : Value).ownBlock ∧ some k_ ≠ (.slice Ao43 t381.length co43 : Value).ownBlock ∧ some k_ ≠ (.slice Ao81 t391.length co81 : Value).ownBlock ∧ k_ ≠ gb355 ∧ k_ ≠ gb370 ∧ k_ ≠ gb378 ∧ k_ ≠ gb386 ∧ k_ ≠ gb396) (.slice Ao24 t359.length co24) t359) := ⟨by (with_reducible repeat (first | apply nA | apply nD | apply n1x)); exact Kd.N_mono (Kd.N_far (p := ⟨gb396, 3, none⟩) (Kd.N_far (p := ⟨gb396, 2, none⟩) (Kd.N_far (p := ⟨gb396, 1, none⟩) (Kd.N_far (p := ⟨gb396, 0, none⟩) (Kd.N_mono HO_371000.out (fun k_ hk => (⟨hk, hk.2⟩ : _ ∧ k_ ≠ gb396))) (fun _ hk => hk.2) (.int .i64 t389)) (fun _ hk => hk.2) (.int .i64 t390)) (fun _ hk => hk.2) (.slice Ao81 t391.length co81)) (fun _ hk => hk.2) (.int .i64 t394)) (fun _ hk => ⟨hk.1.1.1.1, ⟨hk.1.1.1.2.1, ⟨hk.1.1.1.2.2.1, ⟨hk.1.1.1.2.2.2.1, ⟨hk.1.1.2, ⟨hk.1.1.1.2.2.2.2.1, ⟨hk.1.1.1.2.2.2.2.2.1, ⟨hk.1.1.1.2.2.2.2.2.2.1, ⟨hk.1.1.1.2.2.2.2.2.2.2, hk.1.2⟩⟩⟩⟩⟩⟩⟩⟩⟩)⟩
          have n1_ : Aside0 (Kd.N k43 43 ((((w75.setCell ⟨gb396, 0, none⟩ (.int .i64 t389)).setCell ⟨gb396, 1, none⟩ (.int .i64 t390)).setCell ⟨gb396, 2, none⟩ (.slice Ao81 t391.length co81)).setCell ⟨gb396, 3, none⟩ (.int .i64 t394)) w.heap.size (fun k_ => some k_ ≠ (.slice Ao24 t359.length co24 : Value).ownBlock ∧ some k_ ≠ (.slice Ao28 t365.length co28 : Value).ownBlock ∧ some k_ ≠ (.slice Ao35 t373.length co35 : Value).ownBlock ∧ some k_ ≠ (.slice Ao43 t381.length co43 : Value).ownBlock ∧ some k_ ≠ (.slice Ao81 t391.length co81 : Value).ownBlock ∧ k_ ≠ gb355 ∧ k_ ≠ gb370 ∧ k_ ≠ gb378 ∧ k_ ≠ gb386 ∧ k_ ≠ gb396) (.slice Ao27 t362.length co27) t362) := ⟨by (with_reducible repeat (first | apply nA | apply nD | apply n1x)); exact Kd.N_mono (Kd.N_far (p := ⟨gb396, 3, none⟩) (Kd.N_far (p := ⟨gb396, 2, none⟩) (Kd.N_far (p := ⟨gb396, 1, none⟩) (Kd.N_far (p := ⟨gb396, 0, none⟩) (Kd.N_mono HO_371001.out (fun k_ hk => (⟨hk, hk.2⟩ : _ ∧ k_ ≠ gb396))) (fun _ hk => hk.2) (.int .i64 t389)) (fun _ hk => hk.2) (.int .i64 t390)) (fun _ hk => hk.2) (.slice Ao81 t391.length co81)) (fun _ hk => hk.2) (.int .i64 t394)) (fun _ hk => ⟨hk.1.1.1.1, ⟨hk.1.1.1.2.1, ⟨hk.1.1.1.2.2.1, ⟨hk.1.1.1.2.2.2.1, ⟨hk.1.1.2, ⟨hk.1.1.1.2.2.2.2.1, ⟨hk.1.1.1.2.2.2.2.2.1, ⟨hk.1.1.1.2.2.2.2.2.2.1, ⟨hk.1.1.1.2.2.2.2.2.2.2, hk.1.2⟩⟩⟩⟩⟩⟩⟩⟩⟩)⟩
          have n2_ : Aside0 (Kd.R k58 58 ((((w75.setCell ⟨gb396, 0, none⟩ (.int .i64 t389)).setCell ⟨gb396, 1, none⟩ (.int .i64 t390)).setCell ⟨gb396, 2, none⟩ (.slice Ao81 t391.length co81)).setCell ⟨gb396, 3, none⟩ (.int .i64 t394)) w.heap.size (fun _ => True) (.slice Ao28 t365.length co28) t365) := ⟨by (with_reducible repeat (first | apply rA | apply rD | apply r1x)); exact Kd.R_mono (Kd.R_far (p := ⟨gb396, 3, none⟩) (Kd.R_far (p := ⟨gb396, 2, none⟩) (Kd.R_far (p := ⟨gb396, 1, none⟩) (Kd.R_far (p := ⟨gb396, 0, none⟩) (Kd.R_types HO_371002.out BK396.out (by decide)) (fun _ hk => hk.2) (.int .i64 t389)) (fun _ hk => hk.2) (.int .i64 t390)) (fun _ hk => hk.2) (.slice Ao81 t391.length co81)) (fun _ hk => hk.2) (.int .i64 t394)) (fun _ hk => trivial)⟩
          have n3_ : Aside0 (Kd.R (Kd.int .i64) 3 ((((w75.setCell ⟨gb396, 0, none⟩ (.int .i64 t389)).setCell ⟨gb396, 1, none⟩ (.int .i64 t390)).setCell ⟨gb396, 2, none⟩ (.slice Ao81 t391.length co81)).setCell ⟨gb396, 3, none⟩ (.int .i64 t394)) w.heap.size (fun k_ => some k_ ≠ (.slice Ao43 t381.length co43 : Value).ownBlock ∧ some k_ ≠ (.slice Ao81 t391.length co81 : Value).ownBlock) (.slice Ao35 t373.length co35) t373) := ⟨by (with_reducible repeat (first | apply rA | apply rD | apply r1x)); exact Kd.R_mono (Kd.R_far (p := ⟨gb396, 3, none⟩) (Kd.R_far (p := ⟨gb396, 2, none⟩) (Kd.R_far (p := ⟨gb396, 1, none⟩) (Kd.R_far (p := ⟨gb396, 0, none⟩) (Kd.R_types HO_379002.out BK396.out (by decide)) (fun _ hk => hk.2) (.int .i64 t389)) (fun _ hk => hk.2) (.int .i64 t390)) (fun _ hk => hk.2) (.slice Ao81 t391.length co81)) (fun _ hk => hk.2) (.int .i64 t394)) (fun _ hk => ⟨hk.1.1, hk.1.2⟩)⟩
          have n4_ : Aside0 (Kd.R (Kd.int .i64) 3 ((((w75.setCell ⟨gb396, 0, none⟩ (.int .i64 t389)).setCell ⟨gb396, 1, none⟩ (.int .i64 t390)).setCell ⟨gb396, 2, none⟩ (.slice Ao81 t391.length co81)).setCell ⟨gb396, 3, none⟩ (.int .i64 t394)) w.heap.size (fun k_ => some k_ ≠ (.slice Ao35 t373.length co35 : Value).ownBlock ∧ some k_ ≠ (.slice Ao81 t391.length co81 : Value).ownBlock) (.slice Ao43 t381.length co43) t381) := ⟨by (with_reducible repeat (first | apply rA | apply rD | apply r1x)); exact Kd.R_mono (Kd.R_far (p := ⟨gb396, 3, none⟩) (Kd.R_far (p := ⟨gb396, 2, none⟩) (Kd.R_far (p := ⟨gb396, 1, none⟩) (Kd.R_far (p := ⟨gb396, 0, none⟩) (Kd.R_types HO_387002.out BK396.out (by decide)) (fun _ hk => hk.2) (.int .i64 t389)) (fun _ hk => hk.2) (.int .i64 t390)) (fun _ hk => hk.2) (.slice Ao81 t391.length co81)) (fun _ hk => hk.2) (.int .i64 t394)) (fun _ hk => ⟨hk.1.1, hk.1.2⟩)⟩
          have n5_ : Aside0 (Kd.R (Kd.int .i64) 3 ((((w75.setCell ⟨gb396, 0, none⟩ (.int .i64 t389)).setCell ⟨gb396, 1, none⟩ (.int .i64 t390)).setCell ⟨gb396, 2, none⟩ (.slice Ao81 t391.length co81)).setCell ⟨gb396, 3, none⟩ (.int .i64 t394)) w.heap.size (fun k_ => some k_ ≠ (.slice Ao35 t373.length co35 : Value).ownBlock ∧ some k_ ≠ (.slice Ao43 t381.length co43 : Value).ownBlock) (.slice Ao81 t391.length co81) t391) := ⟨by (with_reducible repeat (first | apply rA | apply rD | apply r1x)); exact Kd.R_mono (Kd.R_far (p := ⟨gb396, 3, none⟩) (Kd.R_far (p := ⟨gb396, 2, none⟩) (Kd.R_far (p := ⟨gb396, 1, none⟩) (Kd.R_far (p := ⟨gb396, 0, none⟩) (Kd.R_types HO393.out BK396.out (by decide)) (fun _ hk => hk.2) (.int .i64 t389)) (fun _ hk => hk.2) (.int .i64 t390)) (fun _ hk => hk.2) (.slice Ao81 t391.length co81)) (fun _ hk => hk.2) (.int .i64 t394)) (fun _ hk => ⟨hk.1.1.2, hk.1.2⟩)⟩
          have n6_ : Aside0 (((((w75.setCell ⟨gb396, 0, none⟩ (.int .i64 t389)).setCell ⟨gb396, 1, none⟩ (.int .i64 t390)).setCell ⟨gb396, 2, none⟩ (.slice Ao81 t391.length co81)).setCell ⟨gb396, 3, none⟩ (.int .i64 t394)).heap[gb355]? = some (.cells #[.slice A0_0 l0_0.length c0_0, .slice A0_1 l0_1.length c0_1, .slice A0_2 l0_2.length c0_2, .int .i64 a0_3, .int .i64 a0_4] 26 (0, 0))) := ⟨by (with_reducible repeat (first | refine kD ?_ _ | refine k1_ ?_ | refine kA ?_ _)); refine kF ?_ NB355_396.out _; (with_reducible repeat (first | refine kD ?_ _ | refine k1_ ?_ | refine kA ?_ _)); refine kF ?_ NB355_396.out _; (with_reducible repeat (first | refine kD ?_ _ | refine k1_ ?_ | refine kA ?_ _)); refine kF ?_ NB355_396.out _; (with_reducible repeat (first | refine kD ?_ _ | refine k1_ ?_ | refine kA ?_ _)); refine kF ?_ NB355_396.out _; (with_reducible repeat (first | refine kD ?_ _ | refine k1_ ?_ | refine kA ?_ _)); exact BK355.out⟩
          have n7_ : Aside0 (((((w75.setCell ⟨gb396, 0, none⟩ (.int .i64 t389)).setCell ⟨gb396, 1, none⟩ (.int .i64 t390)).setCell ⟨gb396, 2, none⟩ (.slice Ao81 t391.length co81)).setCell ⟨gb396, 3, none⟩ (.int .i64 t394)).heap[gb370]? = some (.cells #[.slice Ao24 t359.length co24, .slice Ad d362.length cd, .slice Ao28 t365.length co28, .int .i64 t368, .int .i64 t369] 26 (0, 0))) := ⟨by (with_reducible repeat (first | refine kD ?_ _ | refine k1_ ?_ | refine kA ?_ _)); refine kF ?_ NB370_396.out _; (with_reducible repeat (first | refine kD ?_ _ | refine k1_ ?_ | refine kA ?_ _)); refine kF ?_ NB370_396.out _; (with_reducible repeat (first | refine kD ?_ _ | refine k1_ ?_ | refine kA ?_ _)); refine kF ?_ NB370_396.out _; (with_reducible repeat (first | refine kD ?_ _ | refine k1_ ?_ | refine kA ?_ _)); refine kF ?_ NB370_396.out _; (with_reducible repeat (first | refine kD ?_ _ | refine k1_ ?_ | refine kA ?_ _)); exact BK370.out⟩
          have n8_ : Aside0 (((((w75.setCell ⟨gb396, 0, none⟩ (.int .i64 t389)).setCell ⟨gb396, 1, none⟩ (.int .i64 t390)).setCell ⟨gb396, 2, none⟩ (.slice Ao81 t391.length co81)).setCell ⟨gb396, 3, none⟩ (.int .i64 t394)).heap[gb378]? = some (.cells #[.int .i64 t371, .int .i64 t372, .slice Ao35 t373.length co35, .int .i64 t376] 33 (0, 0))) := ⟨by (with_reducible repeat (first | refine kD ?_ _ | refine k1_ ?_ | refine kA ?_ _)); refine kF ?_ NB378_396.out _; (with_reducible repeat (first | refine kD ?_ _ | refine k1_ ?_ | refine kA ?_ _)); refine kF ?_ NB378_396.out _; (with_reducible repeat (first | refine kD ?_ _ | refine k1_ ?_ | refine kA ?_ _)); refine kF ?_ NB378_396.out _; (with_reducible repeat (first | refine kD ?_ _ | refine k1_ ?_ | refine kA ?_ _)); refine kF ?_ NB378_396.out _; (with_reducible repeat (first | refine kD ?_ _ | refine k1_ ?_ | refine kA ?_ _)); exact BK378.out⟩
          have n9_ : Aside0 (((((w75.setCell ⟨gb396, 0, none⟩ (.int .i64 t389)).setCell ⟨gb396, 1, none⟩ (.int .i64 t390)).setCell ⟨gb396, 2, none⟩ (.slice Ao81 t391.length co81)).setCell ⟨gb396, 3, none⟩ (.int .i64 t394)).heap[gb386]? = some (.cells #[.int .i64 t379, .int .i64 t380, .slice Ao43 t381.length co43, .int .i64 t384] 33 (0, 0))) := ⟨by (with_reducible repeat (first | refine kD ?_ _ | refine k1_ ?_ | refine kA ?_ _)); refine kF ?_ NB386_396.out _; (with_reducible repeat (first | refine kD ?_ _ | refine k1_ ?_ | refine kA ?_ _)); refine kF ?_ NB386_396.out _; (with_reducible repeat (first | refine kD ?_ _ | refine k1_ ?_ | refine kA ?_ _)); refine kF ?_ NB386_396.out _; (with_reducible repeat (first | refine kD ?_ _ | refine k1_ ?_ | refine kA ?_ _)); refine kF ?_ NB386_396.out _; (with_reducible repeat (first | refine kD ?_ _ | refine k1_ ?_ | refine kA ?_ _)); exact BK386.out⟩
          have n10_ : Aside0 (((((w75.setCell ⟨gb396, 0, none⟩ (.int .i64 t389)).setCell ⟨gb396, 1, none⟩ (.int .i64 t390)).setCell ⟨gb396, 2, none⟩ (.slice Ao81 t391.length co81)).setCell ⟨gb396, 3, none⟩ (.int .i64 t394)).heap[gb396]? = some (.cells #[.int .i64 t389, .int .i64 t390, .slice Ao81 t391.length co81, .int .i64 t394] 33 (0, 0))) := ⟨by (with_reducible repeat (first | refine kD ?_ _ | refine k1_ ?_ | refine kA ?_ _)); refine kP (cs := #[.int .i64 t389, .int .i64 t390, .slice Ao81 t391.length co81, .int .i64 0]) ?_ 3 _ rfl; (with_reducible repeat (first | refine kD ?_ _ | refine k1_ ?_ | refine kA ?_ _)); refine kP (cs := #[.int .i64 t389, .int .i64 t390, .slice none 0 0, .int .i64 0]) ?_ 2 _ rfl; (with_reducible repeat (first | refine kD ?_ _ | refine k1_ ?_ | refine kA ?_ _)); refine kP (cs := #[.int .i64 t389, .int .i64 0, .slice none 0 0, .int .i64 0]) ?_ 1 _ rfl; (with_reducible repeat (first | refine kD ?_ _ | refine k1_ ?_ | refine kA ?_ _)); refine kP (cs := #[.int .i64 0, .int .i64 0, .slice none 0 0, .int .i64 0]) ?_ 0 _ rfl; (with_reducible repeat (first | refine kD ?_ _ | refine k1_ ?_ | refine kA ?_ _)); exact BK396.out⟩
          have n11_ : Aside0 (Below w.heap.size w ((((w75.setCell ⟨gb396, 0, none⟩ (.int .i64 t389)).setCell ⟨gb396, 1, none⟩ (.int .i64 t390)).setCell ⟨gb396, 2, none⟩ (.slice Ao81 t391.length co81)).setCell ⟨gb396, 3, none⟩ (.int .i64 t394))) := ⟨by repeat (first | (with_reducible first | exact HB.out | apply bA | apply bD | apply b1 | refine bS ?_ GE355.out | refine bS ?_ GE370.out | refine bS ?_ GE378.out | refine bS ?_ GE386.out | refine bS ?_ GE396.out) | exact HB.out)⟩
          (try clear HO_371000)
          (try clear HO_371001)
          (try clear HO_371002)
          (try clear HO_379002)
          (try clear HO_387002)
          (try clear HO393)
          (try clear BK355)
          (try clear BK370)
          (try clear BK378)
          (try clear BK386)
          (try clear BK396)
          (try clear HB)
          generalize ((((w75.setCell ⟨gb396, 0, none⟩ (.int .i64 t389)).setCell ⟨gb396, 1, none⟩ (.int .i64 t390)).setCell ⟨gb396, 2, none⟩ (.slice Ao81 t391.length co81)).setCell ⟨gb396, 3, none⟩ (.int .i64 t394)) = w82 at n0_ n1_ n2_ n3_ n4_ n5_ n6_ n7_ n8_ n9_ n10_ n11_ ⊢
          have HO_371000 := n0_
          have HO_371001 := n1_
          have HO_371002 := n2_
          have HO_379002 := n3_
          have HO_387002 := n4_
          have HO393 := n5_
          have BK355 := n6_
          have BK370 := n7_
          have BK378 := n8_
          have BK386 := n9_
          have BK396 := n10_
          have HB := n11_
          clear n0_ n1_ n2_ n3_ n4_ n5_ n6_ n7_ n8_ n9_ n10_ n11_
          have n0_ := AM (n1x HO_371000.out)
          have n1_ := AM (n1x HO_371001.out)
          have n2_ := AM (r1x HO_371002.out)
          have n3_ := AM (r1x HO_379002.out)
          have n4_ := AM (r1x HO_387002.out)
          have n5_ := AM (r1x HO393.out)
          have n6_ := AM (k1_ BK355.out)
          have n7_ := AM (k1_ BK370.out)
          have n8_ := AM (k1_ BK378.out)
          have n9_ := AM (k1_ BK386.out)
          have n10_ := AM (k1_ BK396.out)
          have n11_ := AM (b1 HB.out)
          clear HO_371000
          clear HO_371001
          clear HO_371002
          clear HO_379002
          clear HO_387002
          clear HO393
          clear BK355
          clear BK370
          clear BK378
          clear BK386
          clear BK396
          clear HB
          have HO_371000 := n0_
          have HO_371001 := n1_
          have HO_371002 := n2_
          have HO_379002 := n3_
          have HO_387002 := n4_
          have HO393 := n5_
          have BK355 := n6_
          have BK370 := n7_
          have BK378 := n8_
          have BK386 := n9_
          have BK396 := n10_
          have HB := n11_
          clear n0_ n1_ n2_ n3_ n4_ n5_ n6_ n7_ n8_ n9_ n10_ n11_
          refine start_ (n := 24) (S := fun w' => w'.cell? ⟨gb396, 0, none⟩ = some (.int .i64 t389) ∧ w'.cell? ⟨gb396, 1, none⟩ = some (.int .i64 t390) ∧ w'.cell? ⟨gb396, 2, none⟩ = some (.slice Ao81 t391.length co81) ∧ w'.cell? ⟨gb396, 3, none⟩ = some (.int .i64 t394) ∧ w'.cell? ⟨gb378, 0, none⟩ = some (.int .i64 t371) ∧ w'.cell? ⟨gb378, 1, none⟩ = some (.int .i64 t372) ∧ w'.cell? ⟨gb378, 2, none⟩ = some (.slice Ao35 t373.length co35) ∧ w'.cell? ⟨gb378, 3, none⟩ = some (.int .i64 t376) ∧ w'.cell? ⟨gb355, 0, none⟩ = some (.slice A0_0 l0_0.length c0_0) ∧ w'.cell? ⟨gb355, 1, none⟩ = some (.slice A0_1 l0_1.length c0_1) ∧ w'.cell? ⟨gb355, 2, none⟩ = some (.slice A0_2 l0_2.length c0_2) ∧ w'.cell? ⟨gb355, 3, none⟩ = some (.int .i64 a0_3) ∧ w'.cell? ⟨gb355, 4, none⟩ = some (.int .i64 a0_4) ∧ w'.cell? ⟨gb370, 0, none⟩ = some (.slice Ao24 t359.length co24) ∧ w'.cell? ⟨gb370, 1, none⟩ = some (.slice Ad d362.length cd) ∧ w'.cell? ⟨gb370, 2, none⟩ = some (.slice Ao28 t365.length co28) ∧ w'.cell? ⟨gb370, 3, none⟩ = some (.int .i64 t368) ∧ w'.cell? ⟨gb370, 4, none⟩ = some (.int .i64 t369)) (ds := []) #[false, false, false, false, false, false, false, false, false, false, false, false, false, false, false, false, false, false, false, false, false, false, false, false] (by kernel_rfl) rfl rfl ⟨(bC BK396.out 0).trans rfl, (bC BK396.out 1).trans rfl, (bC BK396.out 2).trans rfl, (bC BK396.out 3).trans rfl, (bC BK378.out 0).trans rfl, (bC BK378.out 1).trans rfl, (bC BK378.out 2).trans rfl, (bC BK378.out 3).trans rfl, (bC BK355.out 0).trans rfl, (bC BK355.out 1).trans rfl, (bC BK355.out 2).trans rfl, (bC BK355.out 3).trans rfl, (bC BK355.out 4).trans rfl, (bC BK370.out 0).trans rfl, (bC BK370.out 1).trans rfl, (bC BK370.out 2).trans rfl, (bC BK370.out 3).trans rfl, (bC BK370.out 4).trans rfl⟩ (fun hHeld => ?_); refine with_tabW stipendlaw10_KeepOrder.tab16 stipendlaw10_KeepOrder.bits16 (fun HT_ HW_ => ?_)
          generalize w82.drew = w83 at HO_371000 HO_371001 HO_371002 HO_379002 HO_387002 HO393 BK355 BK370 BK378 BK386 BK396 HB hHeld ⊢
          refine pure_ (i := 0) (N := some 67) (v := ?_) (a' := ?_) #[true, false, false, false, false, false, false, false, false, false, false, false, false, false, false, false, false, false, false, false, false, false, false, false] rfl rfl (any_of HT_.out (by kernel_rfl)) (fun _ _ _ h => h) (Or.inl ⟨by rfl, ?_⟩) ?_ ?_
          rotate_left
          · intro w'
            go_simp
            with_reducible rfl
          rotate_left
          · simp only [Act.put, List.setIfInBounds_toArray, List.set_cons_zero, List.set_cons_succ, i64_w, i32_w]
            rfl
          refine pure_ (i := 2) (N := some 69) (v := ?_) (a' := ?_) #[true, false, true, false, false, false, false, false, false, false, false, false, false, false, false, false, false, false, false, false, false, false, false, false] rfl rfl (any_of HT_.out (by kernel_rfl)) (fun _ _ _ h => h) (Or.inl ⟨by rfl, ?_⟩) ?_ ?_
          rotate_left
          · intro w'
            go_simp
            with_reducible rfl
          rotate_left
          · simp only [Act.put, List.setIfInBounds_toArray, List.set_cons_zero, List.set_cons_succ, i64_w, i32_w]
            rfl
          refine take_ (i := 1) (N := some 68) (v := ?_) (a' := ?_) #[true, true, true, false, false, false, false, false, false, false, false, false, false, false, false, false, false, false, false, false, false, false, false, false] rfl rfl (take_ofW HT_.out HW_.out (by kernel_rfl)) (fun _ _ _ h => h) (Or.inl ⟨by rfl, ?_⟩) hHeld ?_ ?_
          rotate_left
          · rintro w' ⟨s0, s1, s2, s3, s4, s5, s6, s7, s8, s9, s10, s11, s12, s13, s14, s15, s16, s17⟩
            go_simp
            with_reducible rfl
          rotate_left
          · simp only [Act.put, List.setIfInBounds_toArray, List.set_cons_zero, List.set_cons_succ, i64_w, i32_w]
            rfl
          refine take_ (i := 3) (N := some 70) (v := ?_) (a' := ?_) #[true, true, true, true, false, false, false, false, false, false, false, false, false, false, false, false, false, false, false, false, false, false, false, false] rfl rfl (take_ofW HT_.out HW_.out (by kernel_rfl)) (fun _ _ _ h => h) (Or.inl ⟨by rfl, ?_⟩) hHeld ?_ ?_
          rotate_left
          · rintro w' ⟨s0, s1, s2, s3, s4, s5, s6, s7, s8, s9, s10, s11, s12, s13, s14, s15, s16, s17⟩
            go_simp
            with_reducible rfl
          rotate_left
          · simp only [Act.put, List.setIfInBounds_toArray, List.set_cons_zero, List.set_cons_succ, i64_w, i32_w]
            rfl
          refine pure_ (i := 4) (N := some 71) (v := ?_) (a' := ?_) #[true, true, true, true, true, false, false, false, false, false, false, false, false, false, false, false, false, false, false, false, false, false, false, false] rfl rfl (any_of HT_.out (by kernel_rfl)) (fun _ _ _ h => h) (Or.inl ⟨by rfl, ?_⟩) ?_ ?_
          rotate_left
          · intro w'
            go_simp
            with_reducible rfl
          rotate_left
          · simp only [Act.put, List.setIfInBounds_toArray, List.set_cons_zero, List.set_cons_succ, i64_w, i32_w]
            rfl
          refine pure_ (i := 5) (N := some 72) (v := ?_) (a' := ?_) #[true, true, true, true, true, true, false, false, false, false, false, false, false, false, false, false, false, false, false, false, false, false, false, false] rfl rfl (any_of HT_.out (by kernel_rfl)) (fun _ _ _ h => h) (Or.inl ⟨by rfl, ?_⟩) ?_ ?_
          rotate_left
          · intro w'
            go_simp
            with_reducible rfl
          rotate_left
          · simp only [Act.put, List.setIfInBounds_toArray, List.set_cons_zero, List.set_cons_succ, i64_w, i32_w]
            rfl
          refine take_ (i := 6) (N := some 73) (v := ?_) (a' := ?_) #[true, true, true, true, true, true, true, false, false, false, false, false, false, false, false, false, false, false, false, false, false, false, false, false] rfl rfl (take_ofW HT_.out HW_.out (by kernel_rfl)) (fun _ _ _ h => h) (Or.inl ⟨by rfl, ?_⟩) hHeld ?_ ?_
          rotate_left
          · rintro w' ⟨s0, s1, s2, s3, s4, s5, s6, s7, s8, s9, s10, s11, s12, s13, s14, s15, s16, s17⟩
            go_simp
            with_reducible rfl
          rotate_left
          · simp only [Act.put, List.setIfInBounds_toArray, List.set_cons_zero, List.set_cons_succ, i64_w, i32_w]
            rfl
          refine one_ (i := 7) (N := some 74) #[true, true, true, true, true, true, true, true, false, false, false, false, false, false, false, false, false, false, false, false, false, false, false, false] rfl rfl (one_of HT_.out (by kernel_rfl)) (by decide) (fun K hK => ?_)
          refine goes_ Try.func9 (by kernel_rfl) rfl #[.agg #[.slice A0_0 l0_0.length c0_0, .slice A0_1 l0_1.length c0_1, .slice A0_2 l0_2.length c0_2, .int .i64 a0_3, .int .i64 a0_4]] (by rfl) rfl rfl (by (try simp only [List.map_toArray, List.map_cons, List.map_nil]); first | done | rfl | (simp only [List.length_drop, List.length_take]; rfl)) ?_
          with_reducible refine (keep_Check.calls kj19 _ _ l0_0 _ _ l0_1 _ _ l0_2 a0_3 a0_4 t397 _ ?side1 ?side2 ?side3 ?side4 ?side5 ?side6 A64.out).mono ?_
          (case side1 => repeat (first | exact (cB HR0_0.out HB.out) | (with_reducible refine cA ?_ _) | (with_reducible refine cD ?_ _) | (with_reducible refine c1_ ?_)))
          (case side2 => exact HC0_0.out)
          (case side3 => repeat (first | exact (cB HR0_1.out HB.out) | (with_reducible refine cA ?_ _) | (with_reducible refine cD ?_ _) | (with_reducible refine c1_ ?_)))
          (case side4 => exact HC0_1.out)
          (case side5 => repeat (first | exact (cB HR0_2.out HB.out) | (with_reducible refine cA ?_ _) | (with_reducible refine cD ?_ _) | (with_reducible refine c1_ ?_)))
          (case side6 => exact HC0_2.out)
          rintro e w84 ⟨rfl, hb⟩
          refine ⟨_, rfl, ?_⟩
          have n0_ := AM (Kd.N_below (by (with_reducible repeat (first | apply nA | apply nD | apply n1x)); exact HO_371000.out) hb)
          have n1_ := AM (Kd.N_below (by (with_reducible repeat (first | apply nA | apply nD | apply n1x)); exact HO_371001.out) hb)
          have n2_ := AM (Kd.R_below (by (with_reducible repeat (first | apply rA | apply rD | apply r1x)); exact HO_371002.out) hb)
          have n3_ := AM (Kd.R_below (by (with_reducible repeat (first | apply rA | apply rD | apply r1x)); exact HO_379002.out) hb)
          have n4_ := AM (Kd.R_below (by (with_reducible repeat (first | apply rA | apply rD | apply r1x)); exact HO_387002.out) hb)
          have n5_ := AM (Kd.R_below (by (with_reducible repeat (first | apply rA | apply rD | apply r1x)); exact HO393.out) hb)
          have n6_ := AM (kB (g := gb355) (o := .cells #[.slice A0_0 l0_0.length c0_0, .slice A0_1 l0_1.length c0_1, .slice A0_2 l0_2.length c0_2, .int .i64 a0_3, .int .i64 a0_4] 26 (0, 0)) (by (with_reducible repeat (first | refine kD ?_ _ | refine k1_ ?_ | refine kA ?_ _)); exact BK355.out) hb)
          have n7_ := AM (kB (g := gb370) (o := .cells #[.slice Ao24 t359.length co24, .slice Ad d362.length cd, .slice Ao28 t365.length co28, .int .i64 t368, .int .i64 t369] 26 (0, 0)) (by (with_reducible repeat (first | refine kD ?_ _ | refine k1_ ?_ | refine kA ?_ _)); exact BK370.out) hb)
          have n8_ := AM (kB (g := gb378) (o := .cells #[.int .i64 t371, .int .i64 t372, .slice Ao35 t373.length co35, .int .i64 t376] 33 (0, 0)) (by (with_reducible repeat (first | refine kD ?_ _ | refine k1_ ?_ | refine kA ?_ _)); exact BK378.out) hb)
          have n9_ := AM (kB (g := gb386) (o := .cells #[.int .i64 t379, .int .i64 t380, .slice Ao43 t381.length co43, .int .i64 t384] 33 (0, 0)) (by (with_reducible repeat (first | refine kD ?_ _ | refine k1_ ?_ | refine kA ?_ _)); exact BK386.out) hb)
          have n10_ := AM (kB (g := gb396) (o := .cells #[.int .i64 t389, .int .i64 t390, .slice Ao81 t391.length co81, .int .i64 t394] 33 (0, 0)) (by (with_reducible repeat (first | refine kD ?_ _ | refine k1_ ?_ | refine kA ?_ _)); exact BK396.out) hb)
          have n11_ := AM (bT (by repeat (first | (with_reducible first | exact HB.out | apply bA | apply bD | apply b1 | refine bS ?_ GE355.out | refine bS ?_ GE370.out | refine bS ?_ GE378.out | refine bS ?_ GE386.out | refine bS ?_ GE396.out) | exact HB.out)) hb)
          clear HO_371000
          clear HO_371001
          clear HO_371002
          clear HO_379002
          clear HO_387002
          clear HO393
          clear BK355
          clear BK370
          clear BK378
          clear BK386
          clear BK396
          clear HB
          have HO_371000 := n0_
          have HO_371001 := n1_
          have HO_371002 := n2_
          have HO_379002 := n3_
          have HO_387002 := n4_
          have HO393 := n5_
          have BK355 := n6_
          have BK370 := n7_
          have BK378 := n8_
          have BK386 := n9_
          have BK396 := n10_
          have HB := n11_
          clear n0_ n1_ n2_ n3_ n4_ n5_ n6_ n7_ n8_ n9_ n10_ n11_
          (try clear hb)
          (try clear hb2)
          (try clear hk)
          (try clear hi)
          refine hK.out _ _ ⟨(bC BK396.out 0).trans rfl, (bC BK396.out 1).trans rfl, (bC BK396.out 2).trans rfl, (bC BK396.out 3).trans rfl, (bC BK378.out 0).trans rfl, (bC BK378.out 1).trans rfl, (bC BK378.out 2).trans rfl, (bC BK378.out 3).trans rfl, (bC BK355.out 0).trans rfl, (bC BK355.out 1).trans rfl, (bC BK355.out 2).trans rfl, (bC BK355.out 3).trans rfl, (bC BK355.out 4).trans rfl, (bC BK370.out 0).trans rfl, (bC BK370.out 1).trans rfl, (bC BK370.out 2).trans rfl, (bC BK370.out 3).trans rfl, (bC BK370.out 4).trans rfl⟩ (fun hHeld => ?_)
          clear hK K
          refine norm_ (a' := ?_) ?_ ?_
          rotate_left
          · show Act.put _ (some 74) _ = _
            simp only [Act.put, List.setIfInBounds_toArray, List.set_cons_zero, List.set_cons_succ, i64_w, i32_w]
            rfl
          refine pure_ (i := 8) (N := some 75) (v := ?_) (a' := ?_) #[true, true, true, true, true, true, true, true, true, false, false, false, false, false, false, false, false, false, false, false, false, false, false, false] rfl rfl (any_of HT_.out (by kernel_rfl)) (fun _ _ _ h => h) (Or.inl ⟨by rfl, ?_⟩) ?_ ?_
          rotate_left
          · intro w'
            go_simp
            with_reducible rfl
          rotate_left
          · simp only [Act.put, List.setIfInBounds_toArray, List.set_cons_zero, List.set_cons_succ, i64_w, i32_w]
            rfl
          refine pure_ (i := 9) (N := some 76) (v := ?_) (a' := ?_) #[true, true, true, true, true, true, true, true, true, true, false, false, false, false, false, false, false, false, false, false, false, false, false, false] rfl rfl (any_of HT_.out (by kernel_rfl)) (fun _ _ _ h => h) (Or.inl ⟨by rfl, ?_⟩) ?_ ?_
          rotate_left
          · intro w'
            go_simp
            with_reducible rfl
          rotate_left
          · simp only [Act.put, List.setIfInBounds_toArray, List.set_cons_zero, List.set_cons_succ, i64_w, i32_w]
            rfl
          refine take_ (i := 10) (N := some 77) (v := ?_) (a' := ?_) #[true, true, true, true, true, true, true, true, true, true, true, false, false, false, false, false, false, false, false, false, false, false, false, false] rfl rfl (take_ofW HT_.out HW_.out (by kernel_rfl)) (fun _ _ _ h => h) (Or.inl ⟨by rfl, ?_⟩) hHeld ?_ ?_
          rotate_left
          · rintro w' ⟨s0, s1, s2, s3, s4, s5, s6, s7, s8, s9, s10, s11, s12, s13, s14, s15, s16, s17⟩
            go_simp
            with_reducible rfl
          rotate_left
          · simp only [Act.put, List.setIfInBounds_toArray, List.set_cons_zero, List.set_cons_succ, i64_w, i32_w]
            rfl
          refine one_ (i := 11) (N := some 78) #[true, true, true, true, true, true, true, true, true, true, true, true, false, false, false, false, false, false, false, false, false, false, false, false] rfl rfl (one_of HT_.out (by kernel_rfl)) (by decide) (fun K hK => ?_)
          refine goes_ Try.func9 (by kernel_rfl) rfl #[.agg #[.slice Ao24 t359.length co24, .slice Ad d362.length cd, .slice Ao28 t365.length co28, .int .i64 t368, .int .i64 t369]] (by rfl) rfl rfl (by (try simp only [List.map_toArray, List.map_cons, List.map_nil]); first | done | rfl | (simp only [List.length_drop, List.length_take]; rfl)) ?_
          with_reducible refine (keep_Check.calls kj19 _ _ t359 _ _ d362 _ _ t365 t368 t369 t398 _ ?side1 ?side2 ?side3 ?side4 ?side5 ?side6 A66.out).mono ?_
          (case side1 => repeat (first | exact (Kd.N_reads' HO_371000.out).2.2 | (with_reducible refine cA ?_ _) | (with_reducible refine cD ?_ _) | (with_reducible refine c1_ ?_)))
          (case side2 => exact (Kd.N_reads' HO_371000.out).2.1)
          (case side3 => repeat (first | exact HCdrop.out _ (Kd.N_reads' HO_371001.out).2.2 | (with_reducible refine cA ?_ _) | (with_reducible refine cD ?_ _) | (with_reducible refine c1_ ?_)))
          (case side4 => exact HCd.out)
          (case side5 => repeat (first | exact (Kd.R_reads' HO_371002.out).2.2 | (with_reducible refine cA ?_ _) | (with_reducible refine cD ?_ _) | (with_reducible refine c1_ ?_)))
          (case side6 => exact (Kd.R_reads' HO_371002.out).2.1)
          rintro e w85 ⟨rfl, hb⟩
          refine ⟨_, rfl, ?_⟩
          have n0_ := AM (Kd.N_below (by (with_reducible repeat (first | apply nA | apply nD | apply n1x)); exact HO_371000.out) hb)
          have n1_ := AM (Kd.N_below (by (with_reducible repeat (first | apply nA | apply nD | apply n1x)); exact HO_371001.out) hb)
          have n2_ := AM (Kd.R_below (by (with_reducible repeat (first | apply rA | apply rD | apply r1x)); exact HO_371002.out) hb)
          have n3_ := AM (Kd.R_below (by (with_reducible repeat (first | apply rA | apply rD | apply r1x)); exact HO_379002.out) hb)
          have n4_ := AM (Kd.R_below (by (with_reducible repeat (first | apply rA | apply rD | apply r1x)); exact HO_387002.out) hb)
          have n5_ := AM (Kd.R_below (by (with_reducible repeat (first | apply rA | apply rD | apply r1x)); exact HO393.out) hb)
          have n6_ := AM (kB (g := gb355) (o := .cells #[.slice A0_0 l0_0.length c0_0, .slice A0_1 l0_1.length c0_1, .slice A0_2 l0_2.length c0_2, .int .i64 a0_3, .int .i64 a0_4] 26 (0, 0)) (by (with_reducible repeat (first | refine kD ?_ _ | refine k1_ ?_ | refine kA ?_ _)); exact BK355.out) hb)
          have n7_ := AM (kB (g := gb370) (o := .cells #[.slice Ao24 t359.length co24, .slice Ad d362.length cd, .slice Ao28 t365.length co28, .int .i64 t368, .int .i64 t369] 26 (0, 0)) (by (with_reducible repeat (first | refine kD ?_ _ | refine k1_ ?_ | refine kA ?_ _)); exact BK370.out) hb)
          have n8_ := AM (kB (g := gb378) (o := .cells #[.int .i64 t371, .int .i64 t372, .slice Ao35 t373.length co35, .int .i64 t376] 33 (0, 0)) (by (with_reducible repeat (first | refine kD ?_ _ | refine k1_ ?_ | refine kA ?_ _)); exact BK378.out) hb)
          have n9_ := AM (kB (g := gb386) (o := .cells #[.int .i64 t379, .int .i64 t380, .slice Ao43 t381.length co43, .int .i64 t384] 33 (0, 0)) (by (with_reducible repeat (first | refine kD ?_ _ | refine k1_ ?_ | refine kA ?_ _)); exact BK386.out) hb)
          have n10_ := AM (kB (g := gb396) (o := .cells #[.int .i64 t389, .int .i64 t390, .slice Ao81 t391.length co81, .int .i64 t394] 33 (0, 0)) (by (with_reducible repeat (first | refine kD ?_ _ | refine k1_ ?_ | refine kA ?_ _)); exact BK396.out) hb)
          have n11_ := AM (bT (by repeat (first | (with_reducible first | exact HB.out | apply bA | apply bD | apply b1 | refine bS ?_ GE355.out | refine bS ?_ GE370.out | refine bS ?_ GE378.out | refine bS ?_ GE386.out | refine bS ?_ GE396.out) | exact HB.out)) hb)
          clear HO_371000
          clear HO_371001
          clear HO_371002
          clear HO_379002
          clear HO_387002
          clear HO393
          clear BK355
          clear BK370
          clear BK378
          clear BK386
          clear BK396
          clear HB
          have HO_371000 := n0_
          have HO_371001 := n1_
          have HO_371002 := n2_
          have HO_379002 := n3_
          have HO_387002 := n4_
          have HO393 := n5_
          have BK355 := n6_
          have BK370 := n7_
          have BK378 := n8_
          have BK386 := n9_
          have BK396 := n10_
          have HB := n11_
          clear n0_ n1_ n2_ n3_ n4_ n5_ n6_ n7_ n8_ n9_ n10_ n11_
          (try clear hb)
          (try clear hb2)
          (try clear hk)
          (try clear hi)
          refine hK.out _ _ ⟨(bC BK396.out 0).trans rfl, (bC BK396.out 1).trans rfl, (bC BK396.out 2).trans rfl, (bC BK396.out 3).trans rfl, (bC BK378.out 0).trans rfl, (bC BK378.out 1).trans rfl, (bC BK378.out 2).trans rfl, (bC BK378.out 3).trans rfl, (bC BK355.out 0).trans rfl, (bC BK355.out 1).trans rfl, (bC BK355.out 2).trans rfl, (bC BK355.out 3).trans rfl, (bC BK355.out 4).trans rfl, (bC BK370.out 0).trans rfl, (bC BK370.out 1).trans rfl, (bC BK370.out 2).trans rfl, (bC BK370.out 3).trans rfl, (bC BK370.out 4).trans rfl⟩ (fun hHeld => ?_)
          clear hK K
          refine norm_ (a' := ?_) ?_ ?_
          rotate_left
          · show Act.put _ (some 78) _ = _
            simp only [Act.put, List.setIfInBounds_toArray, List.set_cons_zero, List.set_cons_succ, i64_w, i32_w]
            rfl
          refine pure_ (i := 12) (N := some 79) (v := ?_) (a' := ?_) #[true, true, true, true, true, true, true, true, true, true, true, true, true, false, false, false, false, false, false, false, false, false, false, false] rfl rfl (any_of HT_.out (by kernel_rfl)) (fun _ _ _ h => h) (Or.inl ⟨by rfl, ?_⟩) ?_ ?_
          rotate_left
          · intro w'
            go_simp
            with_reducible rfl
          rotate_left
          · simp only [Act.put, List.setIfInBounds_toArray, List.set_cons_zero, List.set_cons_succ, i64_w, i32_w]
            rfl
          refine pure_ (i := 13) (N := some 80) (v := ?_) (a' := ?_) #[true, true, true, true, true, true, true, true, true, true, true, true, true, true, false, false, false, false, false, false, false, false, false, false] rfl rfl (any_of HT_.out (by kernel_rfl)) (fun _ _ _ h => h) (Or.inl ⟨by rfl, ?_⟩) ?_ ?_
          rotate_left
          · intro w'
            go_simp
            with_reducible rfl
          rotate_left
          · simp only [Act.put, List.setIfInBounds_toArray, List.set_cons_zero, List.set_cons_succ, i64_w, i32_w]
            rfl
          refine pure_ (i := 14) (N := some 81) (v := ?_) (a' := ?_) #[true, true, true, true, true, true, true, true, true, true, true, true, true, true, true, false, false, false, false, false, false, false, false, false] rfl rfl (any_of HT_.out (by kernel_rfl)) (fun _ _ _ h => h) (Or.inl ⟨by rfl, ?_⟩) ?_ ?_
          rotate_left
          · intro w'
            go_simp
            with_reducible rfl
          rotate_left
          · simp only [Act.put, List.setIfInBounds_toArray, List.set_cons_zero, List.set_cons_succ, i64_w, i32_w]
            rfl
          refine pure_ (i := 15) (N := some 82) (v := ?_) (a' := ?_) #[true, true, true, true, true, true, true, true, true, true, true, true, true, true, true, true, false, false, false, false, false, false, false, false] rfl rfl (any_of HT_.out (by kernel_rfl)) (fun _ _ _ h => h) (Or.inl ⟨by rfl, ?_⟩) ?_ ?_
          rotate_left
          · intro w'
            go_simp
            with_reducible rfl
          rotate_left
          · simp only [Act.put, List.setIfInBounds_toArray, List.set_cons_zero, List.set_cons_succ, i64_w, i32_w]
            rfl
          refine take_ (i := 16) (N := some 83) (v := ?_) (a' := ?_) #[true, true, true, true, true, true, true, true, true, true, true, true, true, true, true, true, true, false, false, false, false, false, false, false] rfl rfl (take_ofW HT_.out HW_.out (by kernel_rfl)) (fun _ _ _ h => h) (Or.inl ⟨by rfl, ?_⟩) hHeld ?_ ?_
          rotate_left
          · rintro w' ⟨s0, s1, s2, s3, s4, s5, s6, s7, s8, s9, s10, s11, s12, s13, s14, s15, s16, s17⟩
            go_simp
            with_reducible rfl
          rotate_left
          · simp only [Act.put, List.setIfInBounds_toArray, List.set_cons_zero, List.set_cons_succ, i64_w, i32_w]
            rfl
          refine take_ (i := 18) (N := some 85) (v := ?_) (a' := ?_) #[true, true, true, true, true, true, true, true, true, true, true, true, true, true, true, true, true, false, true, false, false, false, false, false] rfl rfl (take_ofW HT_.out HW_.out (by kernel_rfl)) (fun _ _ _ h => h) (Or.inl ⟨by rfl, ?_⟩) hHeld ?_ ?_
          rotate_left
          · rintro w' ⟨s0, s1, s2, s3, s4, s5, s6, s7, s8, s9, s10, s11, s12, s13, s14, s15, s16, s17⟩
            go_simp
            with_reducible rfl
          rotate_left
          · simp only [Act.put, List.setIfInBounds_toArray, List.set_cons_zero, List.set_cons_succ, i64_w, i32_w]
            rfl
          refine one_ (i := 17) (N := some 84) #[true, true, true, true, true, true, true, true, true, true, true, true, true, true, true, true, true, true, true, false, false, false, false, false] rfl rfl (one_of HT_.out (by kernel_rfl)) (by decide) (fun K hK => ?_)
          refine goes_ Try.func14 (by kernel_rfl) rfl #[.agg #[.slice Ao24 t359.length co24, .slice Ad d362.length cd, .slice Ao28 t365.length co28, .int .i64 t368, .int .i64 t369]] (by rfl) rfl rfl (by (try simp only [List.map_toArray, List.map_cons, List.map_nil]); first | done | rfl | (simp only [List.length_drop, List.length_take]; rfl)) ?_
          with_reducible refine (keep_Components.calls _ _ t359 _ _ d362 _ _ t365 t368 t369 t399 _ ?side1 ?side2 ?side3 ?side4 ?side5 ?side6 A68.out).mono ?_
          (case side1 => repeat (first | exact (Kd.N_reads' HO_371000.out).2.2 | (with_reducible refine cA ?_ _) | (with_reducible refine cD ?_ _) | (with_reducible refine c1_ ?_)))
          (case side2 => exact (Kd.N_reads' HO_371000.out).2.1)
          (case side3 => repeat (first | exact HCdrop.out _ (Kd.N_reads' HO_371001.out).2.2 | (with_reducible refine cA ?_ _) | (with_reducible refine cD ?_ _) | (with_reducible refine c1_ ?_)))
          (case side4 => exact HCd.out)
          (case side5 => repeat (first | exact (Kd.R_reads' HO_371002.out).2.2 | (with_reducible refine cA ?_ _) | (with_reducible refine cD ?_ _) | (with_reducible refine c1_ ?_)))
          (case side6 => exact (Kd.R_reads' HO_371002.out).2.1)
          rintro e w86 ⟨rfl, hb⟩
          refine ⟨_, rfl, ?_⟩
          have n0_ := AM (Kd.N_below (by (with_reducible repeat (first | apply nA | apply nD | apply n1x)); exact HO_371000.out) hb)
          have n1_ := AM (Kd.N_below (by (with_reducible repeat (first | apply nA | apply nD | apply n1x)); exact HO_371001.out) hb)
          have n2_ := AM (Kd.R_below (by (with_reducible repeat (first | apply rA | apply rD | apply r1x)); exact HO_371002.out) hb)
          have n3_ := AM (Kd.R_below (by (with_reducible repeat (first | apply rA | apply rD | apply r1x)); exact HO_379002.out) hb)
          have n4_ := AM (Kd.R_below (by (with_reducible repeat (first | apply rA | apply rD | apply r1x)); exact HO_387002.out) hb)
          have n5_ := AM (Kd.R_below (by (with_reducible repeat (first | apply rA | apply rD | apply r1x)); exact HO393.out) hb)
          have n6_ := AM (kB (g := gb355) (o := .cells #[.slice A0_0 l0_0.length c0_0, .slice A0_1 l0_1.length c0_1, .slice A0_2 l0_2.length c0_2, .int .i64 a0_3, .int .i64 a0_4] 26 (0, 0)) (by (with_reducible repeat (first | refine kD ?_ _ | refine k1_ ?_ | refine kA ?_ _)); exact BK355.out) hb)
          have n7_ := AM (kB (g := gb370) (o := .cells #[.slice Ao24 t359.length co24, .slice Ad d362.length cd, .slice Ao28 t365.length co28, .int .i64 t368, .int .i64 t369] 26 (0, 0)) (by (with_reducible repeat (first | refine kD ?_ _ | refine k1_ ?_ | refine kA ?_ _)); exact BK370.out) hb)
          have n8_ := AM (kB (g := gb378) (o := .cells #[.int .i64 t371, .int .i64 t372, .slice Ao35 t373.length co35, .int .i64 t376] 33 (0, 0)) (by (with_reducible repeat (first | refine kD ?_ _ | refine k1_ ?_ | refine kA ?_ _)); exact BK378.out) hb)
          have n9_ := AM (kB (g := gb386) (o := .cells #[.int .i64 t379, .int .i64 t380, .slice Ao43 t381.length co43, .int .i64 t384] 33 (0, 0)) (by (with_reducible repeat (first | refine kD ?_ _ | refine k1_ ?_ | refine kA ?_ _)); exact BK386.out) hb)
          have n10_ := AM (kB (g := gb396) (o := .cells #[.int .i64 t389, .int .i64 t390, .slice Ao81 t391.length co81, .int .i64 t394] 33 (0, 0)) (by (with_reducible repeat (first | refine kD ?_ _ | refine k1_ ?_ | refine kA ?_ _)); exact BK396.out) hb)
          have n11_ := AM (bT (by repeat (first | (with_reducible first | exact HB.out | apply bA | apply bD | apply b1 | refine bS ?_ GE355.out | refine bS ?_ GE370.out | refine bS ?_ GE378.out | refine bS ?_ GE386.out | refine bS ?_ GE396.out) | exact HB.out)) hb)
          clear HO_371000
          clear HO_371001
          clear HO_371002
          clear HO_379002
          clear HO_387002
          clear HO393
          clear BK355
          clear BK370
          clear BK378
          clear BK386
          clear BK396
          clear HB
          have HO_371000 := n0_
          have HO_371001 := n1_
          have HO_371002 := n2_
          have HO_379002 := n3_
          have HO_387002 := n4_
          have HO393 := n5_
          have BK355 := n6_
          have BK370 := n7_
          have BK378 := n8_
          have BK386 := n9_
          have BK396 := n10_
          have HB := n11_
          clear n0_ n1_ n2_ n3_ n4_ n5_ n6_ n7_ n8_ n9_ n10_ n11_
          (try clear hb)
          (try clear hb2)
          (try clear hk)
          (try clear hi)
          refine hK.out _ _ ⟨(bC BK396.out 0).trans rfl, (bC BK396.out 1).trans rfl, (bC BK396.out 2).trans rfl, (bC BK396.out 3).trans rfl, (bC BK378.out 0).trans rfl, (bC BK378.out 1).trans rfl, (bC BK378.out 2).trans rfl, (bC BK378.out 3).trans rfl, (bC BK355.out 0).trans rfl, (bC BK355.out 1).trans rfl, (bC BK355.out 2).trans rfl, (bC BK355.out 3).trans rfl, (bC BK355.out 4).trans rfl, (bC BK370.out 0).trans rfl, (bC BK370.out 1).trans rfl, (bC BK370.out 2).trans rfl, (bC BK370.out 3).trans rfl, (bC BK370.out 4).trans rfl⟩ (fun hHeld => ?_)
          clear hK K
          refine norm_ (a' := ?_) ?_ ?_
          rotate_left
          · show Act.put _ (some 84) _ = _
            simp only [Act.put, List.setIfInBounds_toArray, List.set_cons_zero, List.set_cons_succ, i64_w, i32_w]
            rfl
          refine one_ (i := 19) (N := some 86) #[true, true, true, true, true, true, true, true, true, true, true, true, true, true, true, true, true, true, true, true, false, false, false, false] rfl rfl (one_of HT_.out (by kernel_rfl)) (by decide) (fun K hK => ?_)
          refine goes_ Try.func14 (by kernel_rfl) rfl #[.agg #[.slice A0_0 l0_0.length c0_0, .slice A0_1 l0_1.length c0_1, .slice A0_2 l0_2.length c0_2, .int .i64 a0_3, .int .i64 a0_4]] (by rfl) rfl rfl (by (try simp only [List.map_toArray, List.map_cons, List.map_nil]); first | done | rfl | (simp only [List.length_drop, List.length_take]; rfl)) ?_
          with_reducible refine (keep_Components.calls _ _ l0_0 _ _ l0_1 _ _ l0_2 a0_3 a0_4 t400 _ ?side1 ?side2 ?side3 ?side4 ?side5 ?side6 A69.out).mono ?_
          (case side1 => repeat (first | exact (cB HR0_0.out HB.out) | (with_reducible refine cA ?_ _) | (with_reducible refine cD ?_ _) | (with_reducible refine c1_ ?_)))
          (case side2 => exact HC0_0.out)
          (case side3 => repeat (first | exact (cB HR0_1.out HB.out) | (with_reducible refine cA ?_ _) | (with_reducible refine cD ?_ _) | (with_reducible refine c1_ ?_)))
          (case side4 => exact HC0_1.out)
          (case side5 => repeat (first | exact (cB HR0_2.out HB.out) | (with_reducible refine cA ?_ _) | (with_reducible refine cD ?_ _) | (with_reducible refine c1_ ?_)))
          (case side6 => exact HC0_2.out)
          rintro e w87 ⟨rfl, hb⟩
          refine ⟨_, rfl, ?_⟩
          have n0_ := AM (Kd.N_below (by (with_reducible repeat (first | apply nA | apply nD | apply n1x)); exact HO_371000.out) hb)
          have n1_ := AM (Kd.N_below (by (with_reducible repeat (first | apply nA | apply nD | apply n1x)); exact HO_371001.out) hb)
          have n2_ := AM (Kd.R_below (by (with_reducible repeat (first | apply rA | apply rD | apply r1x)); exact HO_371002.out) hb)
          have n3_ := AM (Kd.R_below (by (with_reducible repeat (first | apply rA | apply rD | apply r1x)); exact HO_379002.out) hb)
          have n4_ := AM (Kd.R_below (by (with_reducible repeat (first | apply rA | apply rD | apply r1x)); exact HO_387002.out) hb)
          have n5_ := AM (Kd.R_below (by (with_reducible repeat (first | apply rA | apply rD | apply r1x)); exact HO393.out) hb)
          have n6_ := AM (kB (g := gb355) (o := .cells #[.slice A0_0 l0_0.length c0_0, .slice A0_1 l0_1.length c0_1, .slice A0_2 l0_2.length c0_2, .int .i64 a0_3, .int .i64 a0_4] 26 (0, 0)) (by (with_reducible repeat (first | refine kD ?_ _ | refine k1_ ?_ | refine kA ?_ _)); exact BK355.out) hb)
          have n7_ := AM (kB (g := gb370) (o := .cells #[.slice Ao24 t359.length co24, .slice Ad d362.length cd, .slice Ao28 t365.length co28, .int .i64 t368, .int .i64 t369] 26 (0, 0)) (by (with_reducible repeat (first | refine kD ?_ _ | refine k1_ ?_ | refine kA ?_ _)); exact BK370.out) hb)
          have n8_ := AM (kB (g := gb378) (o := .cells #[.int .i64 t371, .int .i64 t372, .slice Ao35 t373.length co35, .int .i64 t376] 33 (0, 0)) (by (with_reducible repeat (first | refine kD ?_ _ | refine k1_ ?_ | refine kA ?_ _)); exact BK378.out) hb)
          have n9_ := AM (kB (g := gb386) (o := .cells #[.int .i64 t379, .int .i64 t380, .slice Ao43 t381.length co43, .int .i64 t384] 33 (0, 0)) (by (with_reducible repeat (first | refine kD ?_ _ | refine k1_ ?_ | refine kA ?_ _)); exact BK386.out) hb)
          have n10_ := AM (kB (g := gb396) (o := .cells #[.int .i64 t389, .int .i64 t390, .slice Ao81 t391.length co81, .int .i64 t394] 33 (0, 0)) (by (with_reducible repeat (first | refine kD ?_ _ | refine k1_ ?_ | refine kA ?_ _)); exact BK396.out) hb)
          have n11_ := AM (bT (by repeat (first | (with_reducible first | exact HB.out | apply bA | apply bD | apply b1 | refine bS ?_ GE355.out | refine bS ?_ GE370.out | refine bS ?_ GE378.out | refine bS ?_ GE386.out | refine bS ?_ GE396.out) | exact HB.out)) hb)
          clear HO_371000
          clear HO_371001
          clear HO_371002
          clear HO_379002
          clear HO_387002
          clear HO393
          clear BK355
          clear BK370
          clear BK378
          clear BK386
          clear BK396
          clear HB
          have HO_371000 := n0_
          have HO_371001 := n1_
          have HO_371002 := n2_
          have HO_379002 := n3_
          have HO_387002 := n4_
          have HO393 := n5_
          have BK355 := n6_
          have BK370 := n7_
          have BK378 := n8_
          have BK386 := n9_
          have BK396 := n10_
          have HB := n11_
          clear n0_ n1_ n2_ n3_ n4_ n5_ n6_ n7_ n8_ n9_ n10_ n11_
          (try clear hb)
          (try clear hb2)
          (try clear hk)
          (try clear hi)
          refine hK.out _ _ ⟨(bC BK396.out 0).trans rfl, (bC BK396.out 1).trans rfl, (bC BK396.out 2).trans rfl, (bC BK396.out 3).trans rfl, (bC BK378.out 0).trans rfl, (bC BK378.out 1).trans rfl, (bC BK378.out 2).trans rfl, (bC BK378.out 3).trans rfl, (bC BK355.out 0).trans rfl, (bC BK355.out 1).trans rfl, (bC BK355.out 2).trans rfl, (bC BK355.out 3).trans rfl, (bC BK355.out 4).trans rfl, (bC BK370.out 0).trans rfl, (bC BK370.out 1).trans rfl, (bC BK370.out 2).trans rfl, (bC BK370.out 3).trans rfl, (bC BK370.out 4).trans rfl⟩ (fun hHeld => ?_)
          clear hK K
          refine norm_ (a' := ?_) ?_ ?_
          rotate_left
          · show Act.put _ (some 86) _ = _
            simp only [Act.put, List.setIfInBounds_toArray, List.set_cons_zero, List.set_cons_succ, i64_w, i32_w]
            rfl
          refine pure_ (i := 20) (N := some 87) (v := ?_) (a' := ?_) #[true, true, true, true, true, true, true, true, true, true, true, true, true, true, true, true, true, true, true, true, true, false, false, false] rfl rfl (any_of HT_.out (by kernel_rfl)) (fun _ _ _ h => h) (Or.inl ⟨by rfl, ?_⟩) ?_ ?_
          rotate_left
          · intro w'
            go_simp
            with_reducible rfl
          rotate_left
          · simp only [Act.put, List.setIfInBounds_toArray, List.set_cons_zero, List.set_cons_succ, i64_w, i32_w]
            rfl
          refine pure_ (i := 21) (N := some 88) (v := ?_) (a' := ?_) #[true, true, true, true, true, true, true, true, true, true, true, true, true, true, true, true, true, true, true, true, true, true, false, false] rfl rfl (any_of HT_.out (by kernel_rfl)) (fun _ _ _ h => h) (Or.inl ⟨by rfl, ?_⟩) ?_ ?_
          rotate_left
          · intro w'
            go_simp
            with_reducible rfl
          rotate_left
          · simp only [Act.put, List.setIfInBounds_toArray, List.set_cons_zero, List.set_cons_succ, i64_w, i32_w]
            rfl
          refine pure_ (i := 22) (N := some 89) (v := ?_) (a' := ?_) #[true, true, true, true, true, true, true, true, true, true, true, true, true, true, true, true, true, true, true, true, true, true, true, false] rfl rfl (any_of HT_.out (by kernel_rfl)) (fun _ _ _ h => h) (Or.inl ⟨by rfl, ?_⟩) ?_ ?_
          rotate_left
          · intro w'
            go_simp
            with_reducible rfl
          rotate_left
          · simp only [Act.put, List.setIfInBounds_toArray, List.set_cons_zero, List.set_cons_succ, i64_w, i32_w]
            rfl
          refine pure_ (i := 23) (N := some 2) (v := ?_) (a' := ?_) #[true, true, true, true, true, true, true, true, true, true, true, true, true, true, true, true, true, true, true, true, true, true, true, true] rfl rfl (any_of HT_.out (by kernel_rfl)) (fun _ _ _ h => h) (Or.inl ⟨by rfl, ?_⟩) ?_ ?_
          rotate_left
          · intro w'
            go_simp
            with_reducible rfl
          rotate_left
          · simp only [Act.put, List.setIfInBounds_toArray, List.set_cons_zero, List.set_cons_succ, i64_w, i32_w]
            rfl
          refine done_ (done_of HT_.out (by kernel_rfl)) ?_
          try go_wp2
          go_ret
          exact ⟨by first | rfl | (simp [errW_none, errW_some] <;> rfl) | (simp [*, errW_none, errW_some] <;> rfl), by repeat (first | (with_reducible first | exact HB.out | apply bA | apply bD | apply b1 | refine bS ?_ GE355.out | refine bS ?_ GE370.out | refine bS ?_ GE378.out | refine bS ?_ GE386.out | refine bS ?_ GE396.out) | exact HB.out)⟩
end Go.Proofs.Ytdllkibfikcfbaa.K
