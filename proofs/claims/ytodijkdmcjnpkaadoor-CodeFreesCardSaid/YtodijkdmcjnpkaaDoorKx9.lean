-- by a program of this session, over the kit's printer
import Derived.Test.YtodijkdmcjnpkaaDoorKx0
import Derived.Test.YtodijkdmcjnpkaaDoorKx2
import Derived.Test.YtodijkdmcjnpkaaDoorKx6
namespace Go.Proofs.YtodijkdmcjnpkaaDoor.K
open Go.RowKit Go.Proofs.YtodijkdmcjnpkaaDoorW.PrintWords Go.Proofs.YtodijkdmcjnpkaaDoorW.PrintLast Go.Proofs.YtodijkdmcjnpkaaDoorW.PrintMore
attribute [local go_sem] max2_int min2_int max_two min_two max_three min_three max_four min_four   -- for this text's walks alone
set_option linter.unusedVariables false
set_option linter.unusedSimpArgs false

/-! ### stipendlaw08_CodeFrees: function 7 -/
mutual
def stipendlaw08_CodeFrees.j0 : Nat → Int → Int → Int → Int → Int → Int → Int → Bool → Int → Int → Int → Int → Bool → Option (Bool)
  | 0, _, _, _, _, _, _, _, _, _, _, _, _, _ => none
  | k + 1, x2, x7, x8, x9, x10, x11, x12, x54, x238000, x238001, x238002, x238003, x238004 => if x54 = true then (if x10 = 1 then (if x12 = 1 then (if x9 = 0 then (some (x11 == 0)) else (some false)) else (some false)) else (some false)) else (if x8 = 0 then (none) else (if x238001 = 2 then (stipendlaw08_CodeFrees.j1 k x2 x9 x10 x11 x12 (wrap64 (-(wrap64 (Int.tdiv (wrap64 (x238002 * x7)) x8)))) x238000 x238001 x238002 x238003 x238004) else (stipendlaw08_CodeFrees.j1 k x2 x9 x10 x11 x12 (wrap64 (Int.tdiv (wrap64 (x238002 * x7)) x8)) x238000 x238001 x238002 x238003 x238004)))
def stipendlaw08_CodeFrees.j1 : Nat → Int → Int → Int → Int → Int → Int → Int → Int → Int → Int → Bool → Option (Bool)
  | 0, _, _, _, _, _, _, _, _, _, _, _ => none
  | k + 1, x2, x9, x10, x11, x12, x13, x238000, x238001, x238002, x238003, x238004 => if x10 = 0 then (stipendlaw08_CodeFrees.j2 k x2 x11 x12 x13 (x9 != x13) x238000 x238001 x238002 x238003 x238004) else (stipendlaw08_CodeFrees.j2 k x2 x11 x12 x13 true x238000 x238001 x238002 x238003 x238004)
def stipendlaw08_CodeFrees.j2 : Nat → Int → Int → Int → Int → Bool → Int → Int → Int → Int → Bool → Option (Bool)
  | 0, _, _, _, _, _, _, _, _, _, _ => none
  | k + 1, x2, x11, x12, x13, x86, x238000, x238001, x238002, x238003, x238004 => if x86 = true then (some false) else (if x2 > 100000000000 then (stipendlaw08_CodeFrees.j3 k x2 x11 x12 x13 100000000000 true x238000 x238001 x238002 x238003 x238004) else (stipendlaw08_CodeFrees.j3 k x2 x11 x12 x13 100000000000 (decide (x2 < (-100000000000))) x238000 x238001 x238002 x238003 x238004))
def stipendlaw08_CodeFrees.j3 : Nat → Int → Int → Int → Int → Int → Bool → Int → Int → Int → Int → Bool → Option (Bool)
  | 0, _, _, _, _, _, _, _, _, _, _, _ => none
  | k + 1, x2, x11, x12, x13, x14, x95, x238000, x238001, x238002, x238003, x238004 => if x95 = true then (if x12 = 10 then (some (x11 == 0)) else (some false)) else (if x238001 = 4 then (if x12 = 0 then (some (x11 == 0)) else (some false)) else (if (wrap64 (x2 - x13)) > x14 then (if x12 = 10 then (some (x11 == 0)) else (some false)) else (if (wrap64 (x2 - x13)) < (wrap64 (-x14)) then (if x12 = 10 then (some (x11 == 0)) else (some false)) else (if x12 = 0 then (some (x11 == (mx 0 (wrap64 (x2 - x13))))) else (some false)))))
end
def stipendlaw08_CodeFrees.f (k : Nat) (a0_0 : Int) (a0_1 : Int) (a0_2 : Int) (a0_3 : Int) (a0_4 : Bool) (a1_0 : Int) (a1_1 : Int) (a2 : Int) : Option (Bool) := (stipendlaw08_codes.f).bind fun t239 => (if t239 = true then ((code_Check.f k a0_0 a0_1 a0_2 a0_3 a0_4).bind fun t240 => (if t240 = 0 then ((code_Free.f k a0_0 a0_1 a0_2 a0_3 a0_4 a1_0 a1_1).bind fun bt241 => ((code_Charge.f k a0_0 a0_1 a0_2 a0_3 a0_4 a2 a1_0 a1_1).bind fun bt243 => (if a1_0 < 0 then (stipendlaw08_CodeFrees.j0 k a2 a1_0 a1_1 bt241.1 bt241.2 bt243.1 bt243.2 true a0_0 a0_1 a0_2 a0_3 a0_4) else (if a1_1 < 1 then (stipendlaw08_CodeFrees.j0 k a2 a1_0 a1_1 bt241.1 bt241.2 bt243.1 bt243.2 true a0_0 a0_1 a0_2 a0_3 a0_4) else (if a1_0 > a1_1 then (stipendlaw08_CodeFrees.j0 k a2 a1_0 a1_1 bt241.1 bt241.2 bt243.1 bt243.2 true a0_0 a0_1 a0_2 a0_3 a0_4) else (stipendlaw08_CodeFrees.j0 k a2 a1_0 a1_1 bt241.1 bt241.2 bt243.1 bt243.2 (decide (a1_1 > 1048576)) a0_0 a0_1 a0_2 a0_3 a0_4)))))) else (some true))) else (some false))
set_option maxHeartbeats 8000000 in
set_option maxRecDepth 100000 in
theorem stipendlaw08_CodeFrees.calls (k : Nat) (a0_0 : Int) (a0_1 : Int) (a0_2 : Int) (a0_3 : Int) (a0_4 : Bool) (a1_0 : Int) (a1_1 : Int) (a2 : Int) (r : Bool) (w : World) (hrt : r = true) (h : stipendlaw08_CodeFrees.f k a0_0 a0_1 a0_2 a0_3 a0_4 a1_0 a1_1 a2 = some r) (htb : TB w) :
    Calls Tryd.prog 7 #[.agg #[.int .i64 a0_0, .int .i64 a0_1, .int .i64 a0_2, .int .i64 a0_3, .bool a0_4], .agg #[.int .i64 a1_0, .int .i64 a1_1], .int .i64 a2] w fun e w' => e = .returned (.bool r) ∧ Below w.heap.size w w' := by
  have HRT := AM hrt
  clear hrt
  have hu23 := Tryd.underlying23
  have hu45 := Tryd.underlying45
  have HB := AM (Below.refl w.heap.size w)
  have H : ((stipendlaw08_codes.f).bind fun t239 => (if t239 = true then ((code_Check.f k a0_0 a0_1 a0_2 a0_3 a0_4).bind fun t240 => (if t240 = 0 then ((code_Free.f k a0_0 a0_1 a0_2 a0_3 a0_4 a1_0 a1_1).bind fun bt241 => ((code_Charge.f k a0_0 a0_1 a0_2 a0_3 a0_4 a2 a1_0 a1_1).bind fun bt243 => (if a1_0 < 0 then (stipendlaw08_CodeFrees.j0 k a2 a1_0 a1_1 bt241.1 bt241.2 bt243.1 bt243.2 true a0_0 a0_1 a0_2 a0_3 a0_4) else (if a1_1 < 1 then (stipendlaw08_CodeFrees.j0 k a2 a1_0 a1_1 bt241.1 bt241.2 bt243.1 bt243.2 true a0_0 a0_1 a0_2 a0_3 a0_4) else (if a1_0 > a1_1 then (stipendlaw08_CodeFrees.j0 k a2 a1_0 a1_1 bt241.1 bt241.2 bt243.1 bt243.2 true a0_0 a0_1 a0_2 a0_3 a0_4) else (stipendlaw08_CodeFrees.j0 k a2 a1_0 a1_1 bt241.1 bt241.2 bt243.1 bt243.2 (decide (a1_1 > 1048576)) a0_0 a0_1 a0_2 a0_3 a0_4)))))) else (some true))) else (some false))) = some r := h
  clear h
  replace H := Option.bind_eq_some_iff.mp H
  obtain ⟨t239, A40, H⟩ := H
  replace H : (if t239 = true then ((code_Check.f k a0_0 a0_1 a0_2 a0_3 a0_4).bind fun t240 => (if t240 = 0 then ((code_Free.f k a0_0 a0_1 a0_2 a0_3 a0_4 a1_0 a1_1).bind fun bt241 => ((code_Charge.f k a0_0 a0_1 a0_2 a0_3 a0_4 a2 a1_0 a1_1).bind fun bt243 => (if a1_0 < 0 then (stipendlaw08_CodeFrees.j0 k a2 a1_0 a1_1 bt241.1 bt241.2 bt243.1 bt243.2 true a0_0 a0_1 a0_2 a0_3 a0_4) else (if a1_1 < 1 then (stipendlaw08_CodeFrees.j0 k a2 a1_0 a1_1 bt241.1 bt241.2 bt243.1 bt243.2 true a0_0 a0_1 a0_2 a0_3 a0_4) else (if a1_0 > a1_1 then (stipendlaw08_CodeFrees.j0 k a2 a1_0 a1_1 bt241.1 bt241.2 bt243.1 bt243.2 true a0_0 a0_1 a0_2 a0_3 a0_4) else (stipendlaw08_CodeFrees.j0 k a2 a1_0 a1_1 bt241.1 bt241.2 bt243.1 bt243.2 (decide (a1_1 > 1048576)) a0_0 a0_1 a0_2 a0_3 a0_4)))))) else (some true))) else (some false)) = some r := H
  have A4 := AM A40
  clear A40
  by_cases c5 : t239 = true
  rotate_left
  · replace c5 := Bool.eq_false_iff.mpr c5
    subst c5
    have H1 : (some false) = some r := by rw [if_neg (show ¬ (false = true) by decide)] at H; exact H
    clear H
    have H := H1
    clear H1
    exact absurd (Option.some.inj H) (by rw [HRT.out]; decide)

  subst c5
  have H1 : ((code_Check.f k a0_0 a0_1 a0_2 a0_3 a0_4).bind fun t240 => (if t240 = 0 then ((code_Free.f k a0_0 a0_1 a0_2 a0_3 a0_4 a1_0 a1_1).bind fun bt241 => ((code_Charge.f k a0_0 a0_1 a0_2 a0_3 a0_4 a2 a1_0 a1_1).bind fun bt243 => (if a1_0 < 0 then (stipendlaw08_CodeFrees.j0 k a2 a1_0 a1_1 bt241.1 bt241.2 bt243.1 bt243.2 true a0_0 a0_1 a0_2 a0_3 a0_4) else (if a1_1 < 1 then (stipendlaw08_CodeFrees.j0 k a2 a1_0 a1_1 bt241.1 bt241.2 bt243.1 bt243.2 true a0_0 a0_1 a0_2 a0_3 a0_4) else (if a1_0 > a1_1 then (stipendlaw08_CodeFrees.j0 k a2 a1_0 a1_1 bt241.1 bt241.2 bt243.1 bt243.2 true a0_0 a0_1 a0_2 a0_3 a0_4) else (stipendlaw08_CodeFrees.j0 k a2 a1_0 a1_1 bt241.1 bt241.2 bt243.1 bt243.2 (decide (a1_1 > 1048576)) a0_0 a0_1 a0_2 a0_3 a0_4)))))) else (some true))) = some r := by rw [if_pos rfl] at H; exact H
  clear H
  have H := H1
  clear H1
  replace H := Option.bind_eq_some_iff.mp H
  obtain ⟨t240, A60, H⟩ := H
  replace H : (if t240 = 0 then ((code_Free.f k a0_0 a0_1 a0_2 a0_3 a0_4 a1_0 a1_1).bind fun bt241 => ((code_Charge.f k a0_0 a0_1 a0_2 a0_3 a0_4 a2 a1_0 a1_1).bind fun bt243 => (if a1_0 < 0 then (stipendlaw08_CodeFrees.j0 k a2 a1_0 a1_1 bt241.1 bt241.2 bt243.1 bt243.2 true a0_0 a0_1 a0_2 a0_3 a0_4) else (if a1_1 < 1 then (stipendlaw08_CodeFrees.j0 k a2 a1_0 a1_1 bt241.1 bt241.2 bt243.1 bt243.2 true a0_0 a0_1 a0_2 a0_3 a0_4) else (if a1_0 > a1_1 then (stipendlaw08_CodeFrees.j0 k a2 a1_0 a1_1 bt241.1 bt241.2 bt243.1 bt243.2 true a0_0 a0_1 a0_2 a0_3 a0_4) else (stipendlaw08_CodeFrees.j0 k a2 a1_0 a1_1 bt241.1 bt241.2 bt243.1 bt243.2 (decide (a1_1 > 1048576)) a0_0 a0_1 a0_2 a0_3 a0_4)))))) else (some true)) = some r := H
  have A6 := AM A60
  clear A60
  by_cases c7 : t240 = 0
  rotate_left
  · rw [if_neg c7] at H
    have c7b0 : (t240 == 0) = false := beq_eq_false_iff_ne.mpr c7
    have c7b1 : (t240 != 0) = true := bne_iff_ne.mpr c7
    obtain rfl := Option.some.inj H
    go_enter Tryd.func7, Tryd.ntmps7
    go_wp2_with (first | ((with_reducible refine gD (N := 3) rfl ?_); (try (refine gG (by rfl) ?_; dsimp only)); refine bE ?hg (N := 3) ?hd (cs := #[.int .i64 a0_0, .int .i64 a0_1, .int .i64 a0_2, .int .i64 a0_3, .bool a0_4]) (t := 23) ?hr ?_; (case hd => rfl); (case hg => rfl); (case hr => first | (go_simp; done) | (go_simp; rfl)); intro gb237 hg w57 hbox hb; have n0_ := AM (bT bQ hb); have n1_ := AM (hbox); have n2_ := AM ((by rw [hg]; exact (bZ bQ) : w.heap.size ≤ gb237)); have n3_ := AM ((by rw [hg]; exact (bZ bQ) : w.heap.size ≤ gb237)); clear HB; have HB := n0_; have BK237 := n1_; have GW237 := n2_; have GE237 := n3_; clear n0_ n1_ n2_ n3_; clear hb hbox hg) | ((with_reducible refine gD (N := 4) rfl ?_); (try (refine gG (by rfl) ?_; dsimp only)); refine bE ?hg (N := 4) ?hd (cs := #[.int .i64 a1_0, .int .i64 a1_1]) (t := 45) ?hr ?_; (case hd => rfl); (case hg => rfl); (case hr => first | (go_simp; done) | (go_simp; rfl)); intro gb238 hg w58 hbox hb; have n0_ := AM (kB (g := gb237) (o := .cells #[.int .i64 a0_0, .int .i64 a0_1, .int .i64 a0_2, .int .i64 a0_3, .bool a0_4] 23 (0, 0)) (kW BK237) hb); have n1_ := AM (bT bQ hb); have n2_ := AM (hbox); have n3_ := AM ((by rw [hg]; exact (bZ bQ) : w.heap.size ≤ gb238)); have n4_ := AM ((by rw [hg]; exact (bZ bQ) : w.heap.size ≤ gb238)); have n5_ := AM ((by rw [hg]; exact Nat.ne_of_lt (blk_lt (g := gb237) (o := .cells #[.int .i64 a0_0, .int .i64 a0_1, .int .i64 a0_2, .int .i64 a0_3, .bool a0_4] 23 (0, 0)) (kW BK237)) : gb237 ≠ gb238)); have n6_ := AM ((by rw [hg]; exact Nat.ne_of_gt (blk_lt (g := gb237) (o := .cells #[.int .i64 a0_0, .int .i64 a0_1, .int .i64 a0_2, .int .i64 a0_3, .bool a0_4] 23 (0, 0)) (kW BK237)) : gb238 ≠ gb237)); clear BK237; clear HB; have BK237 := n0_; have HB := n1_; have BK238 := n2_; have GW238 := n3_; have GE238 := n4_; have NB237_238 := n5_; have NB238_237 := n6_; clear n0_ n1_ n2_ n3_ n4_ n5_ n6_; clear hb hbox hg) | (go_at_call 16; (with_reducible refine (stipendlaw08_codes.calls  true _ A4.out (tQ htb)).mono ?_); rintro e w59 ⟨rfl, hb⟩; have n0_ := AM (kB (g := gb237) (o := .cells #[.int .i64 a0_0, .int .i64 a0_1, .int .i64 a0_2, .int .i64 a0_3, .bool a0_4] 23 (0, 0)) (kW BK237) hb); have n1_ := AM (kB (g := gb238) (o := .cells #[.int .i64 a1_0, .int .i64 a1_1] 45 (0, 0)) (kW BK238) hb); have n2_ := AM (bT bQ hb); clear BK237; clear BK238; clear HB; have BK237 := n0_; have BK238 := n1_; have HB := n2_; clear n0_ n1_ n2_; (try clear hb); (try clear hb2); (try clear hk); (try clear hi); have hnb60 := NB238_237.out; have hnc60 := NB237_238.out; obtain ⟨_, _, _, _⟩ := bX2 BK238.out; obtain ⟨_, _, _, _, _, _, _, _, _, _⟩ := bX5 BK237.out) | (go_at_call 12; (with_reducible refine (code_Check.calls k a0_0 a0_1 a0_2 a0_3 a0_4 t240 _ A6.out).mono ?_); rintro e w63 ⟨rfl, hb⟩; have n0_ := AM (kB (g := gb237) (o := .cells #[.int .i64 a0_0, .int .i64 a0_1, .int .i64 a0_2, .int .i64 a0_3, .bool a0_4] 23 (0, 0)) (kW BK237) hb); have n1_ := AM (kB (g := gb238) (o := .cells #[.int .i64 a1_0, .int .i64 a1_1] 45 (0, 0)) (kW BK238) hb); have n2_ := AM (bT bQ hb); clear BK237; clear BK238; clear HB; have BK237 := n0_; have BK238 := n1_; have HB := n2_; clear n0_ n1_ n2_; (try clear hb); (try clear hb2); (try clear hk); (try clear hi)))
    repeat (go_quiet (first | ((with_reducible refine gD (N := 3) rfl ?_); (try (refine gG (by rfl) ?_; dsimp only)); refine bE ?hg (N := 3) ?hd (cs := #[.int .i64 a0_0, .int .i64 a0_1, .int .i64 a0_2, .int .i64 a0_3, .bool a0_4]) (t := 23) ?hr ?_; (case hd => rfl); (case hg => rfl); (case hr => first | (go_simp; done) | (go_simp; rfl)); intro gb237 hg w57 hbox hb; have n0_ := AM (bT bQ hb); have n1_ := AM (hbox); have n2_ := AM ((by rw [hg]; exact (bZ bQ) : w.heap.size ≤ gb237)); have n3_ := AM ((by rw [hg]; exact (bZ bQ) : w.heap.size ≤ gb237)); clear HB; have HB := n0_; have BK237 := n1_; have GW237 := n2_; have GE237 := n3_; clear n0_ n1_ n2_ n3_; clear hb hbox hg) | ((with_reducible refine gD (N := 4) rfl ?_); (try (refine gG (by rfl) ?_; dsimp only)); refine bE ?hg (N := 4) ?hd (cs := #[.int .i64 a1_0, .int .i64 a1_1]) (t := 45) ?hr ?_; (case hd => rfl); (case hg => rfl); (case hr => first | (go_simp; done) | (go_simp; rfl)); intro gb238 hg w58 hbox hb; have n0_ := AM (kB (g := gb237) (o := .cells #[.int .i64 a0_0, .int .i64 a0_1, .int .i64 a0_2, .int .i64 a0_3, .bool a0_4] 23 (0, 0)) (kW BK237) hb); have n1_ := AM (bT bQ hb); have n2_ := AM (hbox); have n3_ := AM ((by rw [hg]; exact (bZ bQ) : w.heap.size ≤ gb238)); have n4_ := AM ((by rw [hg]; exact (bZ bQ) : w.heap.size ≤ gb238)); have n5_ := AM ((by rw [hg]; exact Nat.ne_of_lt (blk_lt (g := gb237) (o := .cells #[.int .i64 a0_0, .int .i64 a0_1, .int .i64 a0_2, .int .i64 a0_3, .bool a0_4] 23 (0, 0)) (kW BK237)) : gb237 ≠ gb238)); have n6_ := AM ((by rw [hg]; exact Nat.ne_of_gt (blk_lt (g := gb237) (o := .cells #[.int .i64 a0_0, .int .i64 a0_1, .int .i64 a0_2, .int .i64 a0_3, .bool a0_4] 23 (0, 0)) (kW BK237)) : gb238 ≠ gb237)); clear BK237; clear HB; have BK237 := n0_; have HB := n1_; have BK238 := n2_; have GW238 := n3_; have GE238 := n4_; have NB237_238 := n5_; have NB238_237 := n6_; clear n0_ n1_ n2_ n3_ n4_ n5_ n6_; clear hb hbox hg) | (go_at_call 16; (with_reducible refine (stipendlaw08_codes.calls  true _ A4.out (tQ htb)).mono ?_); rintro e w59 ⟨rfl, hb⟩; have n0_ := AM (kB (g := gb237) (o := .cells #[.int .i64 a0_0, .int .i64 a0_1, .int .i64 a0_2, .int .i64 a0_3, .bool a0_4] 23 (0, 0)) (kW BK237) hb); have n1_ := AM (kB (g := gb238) (o := .cells #[.int .i64 a1_0, .int .i64 a1_1] 45 (0, 0)) (kW BK238) hb); have n2_ := AM (bT bQ hb); clear BK237; clear BK238; clear HB; have BK237 := n0_; have BK238 := n1_; have HB := n2_; clear n0_ n1_ n2_; (try clear hb); (try clear hb2); (try clear hk); (try clear hi); have hnb60 := NB238_237.out; have hnc60 := NB237_238.out; obtain ⟨_, _, _, _⟩ := bX2 BK238.out; obtain ⟨_, _, _, _, _, _, _, _, _, _⟩ := bX5 BK237.out) | (go_at_call 12; (with_reducible refine (code_Check.calls k a0_0 a0_1 a0_2 a0_3 a0_4 t240 _ A6.out).mono ?_); rintro e w63 ⟨rfl, hb⟩; have n0_ := AM (kB (g := gb237) (o := .cells #[.int .i64 a0_0, .int .i64 a0_1, .int .i64 a0_2, .int .i64 a0_3, .bool a0_4] 23 (0, 0)) (kW BK237) hb); have n1_ := AM (kB (g := gb238) (o := .cells #[.int .i64 a1_0, .int .i64 a1_1] 45 (0, 0)) (kW BK238) hb); have n2_ := AM (bT bQ hb); clear BK237; clear BK238; clear HB; have BK237 := n0_; have BK238 := n1_; have HB := n2_; clear n0_ n1_ n2_; (try clear hb); (try clear hb2); (try clear hk); (try clear hi))); try go_wp2_with (first | ((with_reducible refine gD (N := 3) rfl ?_); (try (refine gG (by rfl) ?_; dsimp only)); refine bE ?hg (N := 3) ?hd (cs := #[.int .i64 a0_0, .int .i64 a0_1, .int .i64 a0_2, .int .i64 a0_3, .bool a0_4]) (t := 23) ?hr ?_; (case hd => rfl); (case hg => rfl); (case hr => first | (go_simp; done) | (go_simp; rfl)); intro gb237 hg w57 hbox hb; have n0_ := AM (bT bQ hb); have n1_ := AM (hbox); have n2_ := AM ((by rw [hg]; exact (bZ bQ) : w.heap.size ≤ gb237)); have n3_ := AM ((by rw [hg]; exact (bZ bQ) : w.heap.size ≤ gb237)); clear HB; have HB := n0_; have BK237 := n1_; have GW237 := n2_; have GE237 := n3_; clear n0_ n1_ n2_ n3_; clear hb hbox hg) | ((with_reducible refine gD (N := 4) rfl ?_); (try (refine gG (by rfl) ?_; dsimp only)); refine bE ?hg (N := 4) ?hd (cs := #[.int .i64 a1_0, .int .i64 a1_1]) (t := 45) ?hr ?_; (case hd => rfl); (case hg => rfl); (case hr => first | (go_simp; done) | (go_simp; rfl)); intro gb238 hg w58 hbox hb; have n0_ := AM (kB (g := gb237) (o := .cells #[.int .i64 a0_0, .int .i64 a0_1, .int .i64 a0_2, .int .i64 a0_3, .bool a0_4] 23 (0, 0)) (kW BK237) hb); have n1_ := AM (bT bQ hb); have n2_ := AM (hbox); have n3_ := AM ((by rw [hg]; exact (bZ bQ) : w.heap.size ≤ gb238)); have n4_ := AM ((by rw [hg]; exact (bZ bQ) : w.heap.size ≤ gb238)); have n5_ := AM ((by rw [hg]; exact Nat.ne_of_lt (blk_lt (g := gb237) (o := .cells #[.int .i64 a0_0, .int .i64 a0_1, .int .i64 a0_2, .int .i64 a0_3, .bool a0_4] 23 (0, 0)) (kW BK237)) : gb237 ≠ gb238)); have n6_ := AM ((by rw [hg]; exact Nat.ne_of_gt (blk_lt (g := gb237) (o := .cells #[.int .i64 a0_0, .int .i64 a0_1, .int .i64 a0_2, .int .i64 a0_3, .bool a0_4] 23 (0, 0)) (kW BK237)) : gb238 ≠ gb237)); clear BK237; clear HB; have BK237 := n0_; have HB := n1_; have BK238 := n2_; have GW238 := n3_; have GE238 := n4_; have NB237_238 := n5_; have NB238_237 := n6_; clear n0_ n1_ n2_ n3_ n4_ n5_ n6_; clear hb hbox hg) | (go_at_call 16; (with_reducible refine (stipendlaw08_codes.calls  true _ A4.out (tQ htb)).mono ?_); rintro e w59 ⟨rfl, hb⟩; have n0_ := AM (kB (g := gb237) (o := .cells #[.int .i64 a0_0, .int .i64 a0_1, .int .i64 a0_2, .int .i64 a0_3, .bool a0_4] 23 (0, 0)) (kW BK237) hb); have n1_ := AM (kB (g := gb238) (o := .cells #[.int .i64 a1_0, .int .i64 a1_1] 45 (0, 0)) (kW BK238) hb); have n2_ := AM (bT bQ hb); clear BK237; clear BK238; clear HB; have BK237 := n0_; have BK238 := n1_; have HB := n2_; clear n0_ n1_ n2_; (try clear hb); (try clear hb2); (try clear hk); (try clear hi); have hnb60 := NB238_237.out; have hnc60 := NB237_238.out; obtain ⟨_, _, _, _⟩ := bX2 BK238.out; obtain ⟨_, _, _, _, _, _, _, _, _, _⟩ := bX5 BK237.out) | (go_at_call 12; (with_reducible refine (code_Check.calls k a0_0 a0_1 a0_2 a0_3 a0_4 t240 _ A6.out).mono ?_); rintro e w63 ⟨rfl, hb⟩; have n0_ := AM (kB (g := gb237) (o := .cells #[.int .i64 a0_0, .int .i64 a0_1, .int .i64 a0_2, .int .i64 a0_3, .bool a0_4] 23 (0, 0)) (kW BK237) hb); have n1_ := AM (kB (g := gb238) (o := .cells #[.int .i64 a1_0, .int .i64 a1_1] 45 (0, 0)) (kW BK238) hb); have n2_ := AM (bT bQ hb); clear BK237; clear BK238; clear HB; have BK237 := n0_; have BK238 := n1_; have HB := n2_; clear n0_ n1_ n2_; (try clear hb); (try clear hb2); (try clear hk); (try clear hi))))
    go_ret
    exact ⟨by first | rfl | (simp [errW_none, errW_some] <;> rfl) | (simp [*, errW_none, errW_some] <;> rfl), by repeat (first | (with_reducible first | exact HB.out | apply bA | apply bD | apply b1 | refine bS ?_ GE237.out | refine bS ?_ GE238.out) | exact HB.out)⟩
  rw [if_pos c7] at H
  have c7b0 : (t240 == 0) = true := beq_iff_eq.mpr c7
  have c7b1 : (t240 != 0) = false := bne_eq_false_iff_eq.mpr c7
  clear c7
  replace H := Option.bind_eq_some_iff.mp H
  obtain ⟨⟨t241, t242⟩, A80, H⟩ := H
  replace H : ((code_Charge.f k a0_0 a0_1 a0_2 a0_3 a0_4 a2 a1_0 a1_1).bind fun bt243 => (if a1_0 < 0 then (stipendlaw08_CodeFrees.j0 k a2 a1_0 a1_1 t241 t242 bt243.1 bt243.2 true a0_0 a0_1 a0_2 a0_3 a0_4) else (if a1_1 < 1 then (stipendlaw08_CodeFrees.j0 k a2 a1_0 a1_1 t241 t242 bt243.1 bt243.2 true a0_0 a0_1 a0_2 a0_3 a0_4) else (if a1_0 > a1_1 then (stipendlaw08_CodeFrees.j0 k a2 a1_0 a1_1 t241 t242 bt243.1 bt243.2 true a0_0 a0_1 a0_2 a0_3 a0_4) else (stipendlaw08_CodeFrees.j0 k a2 a1_0 a1_1 t241 t242 bt243.1 bt243.2 (decide (a1_1 > 1048576)) a0_0 a0_1 a0_2 a0_3 a0_4))))) = some r := H
  have A8 := AM A80
  clear A80
  replace H := Option.bind_eq_some_iff.mp H
  obtain ⟨⟨t243, t244⟩, A90, H⟩ := H
  replace H : (if a1_0 < 0 then (stipendlaw08_CodeFrees.j0 k a2 a1_0 a1_1 t241 t242 t243 t244 true a0_0 a0_1 a0_2 a0_3 a0_4) else (if a1_1 < 1 then (stipendlaw08_CodeFrees.j0 k a2 a1_0 a1_1 t241 t242 t243 t244 true a0_0 a0_1 a0_2 a0_3 a0_4) else (if a1_0 > a1_1 then (stipendlaw08_CodeFrees.j0 k a2 a1_0 a1_1 t241 t242 t243 t244 true a0_0 a0_1 a0_2 a0_3 a0_4) else (stipendlaw08_CodeFrees.j0 k a2 a1_0 a1_1 t241 t242 t243 t244 (decide (a1_1 > 1048576)) a0_0 a0_1 a0_2 a0_3 a0_4)))) = some r := H
  have A9 := AM A90
  clear A90
  have HC10 := AM H
  clear H
  go_enter Tryd.func7, Tryd.ntmps7
  go_upto_region 8 with (first | ((with_reducible refine gD (N := 3) rfl ?_); (try (refine gG (by rfl) ?_; dsimp only)); refine bE ?hg (N := 3) ?hd (cs := #[.int .i64 a0_0, .int .i64 a0_1, .int .i64 a0_2, .int .i64 a0_3, .bool a0_4]) (t := 23) ?hr ?_; (case hd => rfl); (case hg => rfl); (case hr => first | (go_simp; done) | (go_simp; rfl)); intro gb237 hg w11 hbox hb; have n0_ := AM (bT bQ hb); have n1_ := AM (hbox); have n2_ := AM ((by rw [hg]; exact (bZ bQ) : w.heap.size ≤ gb237)); have n3_ := AM ((by rw [hg]; exact (bZ bQ) : w.heap.size ≤ gb237)); clear HB; have HB := n0_; have BK237 := n1_; have GW237 := n2_; have GE237 := n3_; clear n0_ n1_ n2_ n3_; clear hb hbox hg) | ((with_reducible refine gD (N := 4) rfl ?_); (try (refine gG (by rfl) ?_; dsimp only)); refine bE ?hg (N := 4) ?hd (cs := #[.int .i64 a1_0, .int .i64 a1_1]) (t := 45) ?hr ?_; (case hd => rfl); (case hg => rfl); (case hr => first | (go_simp; done) | (go_simp; rfl)); intro gb238 hg w12 hbox hb; have n0_ := AM (kB (g := gb237) (o := .cells #[.int .i64 a0_0, .int .i64 a0_1, .int .i64 a0_2, .int .i64 a0_3, .bool a0_4] 23 (0, 0)) (kW BK237) hb); have n1_ := AM (bT bQ hb); have n2_ := AM (hbox); have n3_ := AM ((by rw [hg]; exact (bZ bQ) : w.heap.size ≤ gb238)); have n4_ := AM ((by rw [hg]; exact (bZ bQ) : w.heap.size ≤ gb238)); have n5_ := AM ((by rw [hg]; exact Nat.ne_of_lt (blk_lt (g := gb237) (o := .cells #[.int .i64 a0_0, .int .i64 a0_1, .int .i64 a0_2, .int .i64 a0_3, .bool a0_4] 23 (0, 0)) (kW BK237)) : gb237 ≠ gb238)); have n6_ := AM ((by rw [hg]; exact Nat.ne_of_gt (blk_lt (g := gb237) (o := .cells #[.int .i64 a0_0, .int .i64 a0_1, .int .i64 a0_2, .int .i64 a0_3, .bool a0_4] 23 (0, 0)) (kW BK237)) : gb238 ≠ gb237)); clear BK237; clear HB; have BK237 := n0_; have HB := n1_; have BK238 := n2_; have GW238 := n3_; have GE238 := n4_; have NB237_238 := n5_; have NB238_237 := n6_; clear n0_ n1_ n2_ n3_ n4_ n5_ n6_; clear hb hbox hg) | (go_at_call 16; (with_reducible refine (stipendlaw08_codes.calls  true _ A4.out (tQ htb)).mono ?_); rintro e w13 ⟨rfl, hb⟩; have n0_ := AM (kB (g := gb237) (o := .cells #[.int .i64 a0_0, .int .i64 a0_1, .int .i64 a0_2, .int .i64 a0_3, .bool a0_4] 23 (0, 0)) (kW BK237) hb); have n1_ := AM (kB (g := gb238) (o := .cells #[.int .i64 a1_0, .int .i64 a1_1] 45 (0, 0)) (kW BK238) hb); have n2_ := AM (bT bQ hb); clear BK237; clear BK238; clear HB; have BK237 := n0_; have BK238 := n1_; have HB := n2_; clear n0_ n1_ n2_; (try clear hb); (try clear hb2); (try clear hk); (try clear hi); have hnb14 := NB238_237.out; have hnc14 := NB237_238.out; obtain ⟨_, _, _, _⟩ := bX2 BK238.out; obtain ⟨_, _, _, _, _, _, _, _, _, _⟩ := bX5 BK237.out) | (go_at_call 12; (with_reducible refine (code_Check.calls k a0_0 a0_1 a0_2 a0_3 a0_4 t240 _ A6.out).mono ?_); rintro e w17 ⟨rfl, hb⟩; have n0_ := AM (kB (g := gb237) (o := .cells #[.int .i64 a0_0, .int .i64 a0_1, .int .i64 a0_2, .int .i64 a0_3, .bool a0_4] 23 (0, 0)) (kW BK237) hb); have n1_ := AM (kB (g := gb238) (o := .cells #[.int .i64 a1_0, .int .i64 a1_1] 45 (0, 0)) (kW BK238) hb); have n2_ := AM (bT bQ hb); clear BK237; clear BK238; clear HB; have BK237 := n0_; have BK238 := n1_; have HB := n2_; clear n0_ n1_ n2_; (try clear hb); (try clear hb2); (try clear hk); (try clear hi); obtain ⟨_, _, _, _, _, _, _, _, _, _⟩ := bX5 BK237.out) | (go_at_call 15; (with_reducible refine (code_Free.calls k a0_0 a0_1 a0_2 a0_3 a0_4 a1_0 a1_1 t241 t242 _ A8.out).mono ?_); rintro e w19 ⟨rfl, hb⟩; have n0_ := AM (kB (g := gb237) (o := .cells #[.int .i64 a0_0, .int .i64 a0_1, .int .i64 a0_2, .int .i64 a0_3, .bool a0_4] 23 (0, 0)) (kW BK237) hb); have n1_ := AM (kB (g := gb238) (o := .cells #[.int .i64 a1_0, .int .i64 a1_1] 45 (0, 0)) (kW BK238) hb); have n2_ := AM (bT bQ hb); clear BK237; clear BK238; clear HB; have BK237 := n0_; have BK238 := n1_; have HB := n2_; clear n0_ n1_ n2_; (try clear hb); (try clear hb2); (try clear hk); (try clear hi); obtain ⟨_, _, _, _, _, _, _, _, _, _⟩ := bX5 BK237.out) | (go_at_call 17; (with_reducible refine (code_Charge.calls k a0_0 a0_1 a0_2 a0_3 a0_4 a2 a1_0 a1_1 t243 t244 _ A9.out).mono ?_); rintro e w21 ⟨rfl, hb⟩; have n0_ := AM (kB (g := gb237) (o := .cells #[.int .i64 a0_0, .int .i64 a0_1, .int .i64 a0_2, .int .i64 a0_3, .bool a0_4] 23 (0, 0)) (kW BK237) hb); have n1_ := AM (kB (g := gb238) (o := .cells #[.int .i64 a1_0, .int .i64 a1_1] 45 (0, 0)) (kW BK238) hb); have n2_ := AM (bT bQ hb); clear BK237; clear BK238; clear HB; have BK237 := n0_; have BK238 := n1_; have HB := n2_; clear n0_ n1_ n2_; (try clear hb); (try clear hb2); (try clear hk); (try clear hi)))
  repeat (go_quiet (first | ((with_reducible refine gD (N := 3) rfl ?_); (try (refine gG (by rfl) ?_; dsimp only)); refine bE ?hg (N := 3) ?hd (cs := #[.int .i64 a0_0, .int .i64 a0_1, .int .i64 a0_2, .int .i64 a0_3, .bool a0_4]) (t := 23) ?hr ?_; (case hd => rfl); (case hg => rfl); (case hr => first | (go_simp; done) | (go_simp; rfl)); intro gb237 hg w11 hbox hb; have n0_ := AM (bT bQ hb); have n1_ := AM (hbox); have n2_ := AM ((by rw [hg]; exact (bZ bQ) : w.heap.size ≤ gb237)); have n3_ := AM ((by rw [hg]; exact (bZ bQ) : w.heap.size ≤ gb237)); clear HB; have HB := n0_; have BK237 := n1_; have GW237 := n2_; have GE237 := n3_; clear n0_ n1_ n2_ n3_; clear hb hbox hg) | ((with_reducible refine gD (N := 4) rfl ?_); (try (refine gG (by rfl) ?_; dsimp only)); refine bE ?hg (N := 4) ?hd (cs := #[.int .i64 a1_0, .int .i64 a1_1]) (t := 45) ?hr ?_; (case hd => rfl); (case hg => rfl); (case hr => first | (go_simp; done) | (go_simp; rfl)); intro gb238 hg w12 hbox hb; have n0_ := AM (kB (g := gb237) (o := .cells #[.int .i64 a0_0, .int .i64 a0_1, .int .i64 a0_2, .int .i64 a0_3, .bool a0_4] 23 (0, 0)) (kW BK237) hb); have n1_ := AM (bT bQ hb); have n2_ := AM (hbox); have n3_ := AM ((by rw [hg]; exact (bZ bQ) : w.heap.size ≤ gb238)); have n4_ := AM ((by rw [hg]; exact (bZ bQ) : w.heap.size ≤ gb238)); have n5_ := AM ((by rw [hg]; exact Nat.ne_of_lt (blk_lt (g := gb237) (o := .cells #[.int .i64 a0_0, .int .i64 a0_1, .int .i64 a0_2, .int .i64 a0_3, .bool a0_4] 23 (0, 0)) (kW BK237)) : gb237 ≠ gb238)); have n6_ := AM ((by rw [hg]; exact Nat.ne_of_gt (blk_lt (g := gb237) (o := .cells #[.int .i64 a0_0, .int .i64 a0_1, .int .i64 a0_2, .int .i64 a0_3, .bool a0_4] 23 (0, 0)) (kW BK237)) : gb238 ≠ gb237)); clear BK237; clear HB; have BK237 := n0_; have HB := n1_; have BK238 := n2_; have GW238 := n3_; have GE238 := n4_; have NB237_238 := n5_; have NB238_237 := n6_; clear n0_ n1_ n2_ n3_ n4_ n5_ n6_; clear hb hbox hg) | (go_at_call 16; (with_reducible refine (stipendlaw08_codes.calls  true _ A4.out (tQ htb)).mono ?_); rintro e w13 ⟨rfl, hb⟩; have n0_ := AM (kB (g := gb237) (o := .cells #[.int .i64 a0_0, .int .i64 a0_1, .int .i64 a0_2, .int .i64 a0_3, .bool a0_4] 23 (0, 0)) (kW BK237) hb); have n1_ := AM (kB (g := gb238) (o := .cells #[.int .i64 a1_0, .int .i64 a1_1] 45 (0, 0)) (kW BK238) hb); have n2_ := AM (bT bQ hb); clear BK237; clear BK238; clear HB; have BK237 := n0_; have BK238 := n1_; have HB := n2_; clear n0_ n1_ n2_; (try clear hb); (try clear hb2); (try clear hk); (try clear hi); have hnb14 := NB238_237.out; have hnc14 := NB237_238.out; obtain ⟨_, _, _, _⟩ := bX2 BK238.out; obtain ⟨_, _, _, _, _, _, _, _, _, _⟩ := bX5 BK237.out) | (go_at_call 12; (with_reducible refine (code_Check.calls k a0_0 a0_1 a0_2 a0_3 a0_4 t240 _ A6.out).mono ?_); rintro e w17 ⟨rfl, hb⟩; have n0_ := AM (kB (g := gb237) (o := .cells #[.int .i64 a0_0, .int .i64 a0_1, .int .i64 a0_2, .int .i64 a0_3, .bool a0_4] 23 (0, 0)) (kW BK237) hb); have n1_ := AM (kB (g := gb238) (o := .cells #[.int .i64 a1_0, .int .i64 a1_1] 45 (0, 0)) (kW BK238) hb); have n2_ := AM (bT bQ hb); clear BK237; clear BK238; clear HB; have BK237 := n0_; have BK238 := n1_; have HB := n2_; clear n0_ n1_ n2_; (try clear hb); (try clear hb2); (try clear hk); (try clear hi); obtain ⟨_, _, _, _, _, _, _, _, _, _⟩ := bX5 BK237.out) | (go_at_call 15; (with_reducible refine (code_Free.calls k a0_0 a0_1 a0_2 a0_3 a0_4 a1_0 a1_1 t241 t242 _ A8.out).mono ?_); rintro e w19 ⟨rfl, hb⟩; have n0_ := AM (kB (g := gb237) (o := .cells #[.int .i64 a0_0, .int .i64 a0_1, .int .i64 a0_2, .int .i64 a0_3, .bool a0_4] 23 (0, 0)) (kW BK237) hb); have n1_ := AM (kB (g := gb238) (o := .cells #[.int .i64 a1_0, .int .i64 a1_1] 45 (0, 0)) (kW BK238) hb); have n2_ := AM (bT bQ hb); clear BK237; clear BK238; clear HB; have BK237 := n0_; have BK238 := n1_; have HB := n2_; clear n0_ n1_ n2_; (try clear hb); (try clear hb2); (try clear hk); (try clear hi); obtain ⟨_, _, _, _, _, _, _, _, _, _⟩ := bX5 BK237.out) | (go_at_call 17; (with_reducible refine (code_Charge.calls k a0_0 a0_1 a0_2 a0_3 a0_4 a2 a1_0 a1_1 t243 t244 _ A9.out).mono ?_); rintro e w21 ⟨rfl, hb⟩; have n0_ := AM (kB (g := gb237) (o := .cells #[.int .i64 a0_0, .int .i64 a0_1, .int .i64 a0_2, .int .i64 a0_3, .bool a0_4] 23 (0, 0)) (kW BK237) hb); have n1_ := AM (kB (g := gb238) (o := .cells #[.int .i64 a1_0, .int .i64 a1_1] 45 (0, 0)) (kW BK238) hb); have n2_ := AM (bT bQ hb); clear BK237; clear BK238; clear HB; have BK237 := n0_; have BK238 := n1_; have HB := n2_; clear n0_ n1_ n2_; (try clear hb); (try clear hb2); (try clear hk); (try clear hi))); go_upto_region 8 with (first | ((with_reducible refine gD (N := 3) rfl ?_); (try (refine gG (by rfl) ?_; dsimp only)); refine bE ?hg (N := 3) ?hd (cs := #[.int .i64 a0_0, .int .i64 a0_1, .int .i64 a0_2, .int .i64 a0_3, .bool a0_4]) (t := 23) ?hr ?_; (case hd => rfl); (case hg => rfl); (case hr => first | (go_simp; done) | (go_simp; rfl)); intro gb237 hg w11 hbox hb; have n0_ := AM (bT bQ hb); have n1_ := AM (hbox); have n2_ := AM ((by rw [hg]; exact (bZ bQ) : w.heap.size ≤ gb237)); have n3_ := AM ((by rw [hg]; exact (bZ bQ) : w.heap.size ≤ gb237)); clear HB; have HB := n0_; have BK237 := n1_; have GW237 := n2_; have GE237 := n3_; clear n0_ n1_ n2_ n3_; clear hb hbox hg) | ((with_reducible refine gD (N := 4) rfl ?_); (try (refine gG (by rfl) ?_; dsimp only)); refine bE ?hg (N := 4) ?hd (cs := #[.int .i64 a1_0, .int .i64 a1_1]) (t := 45) ?hr ?_; (case hd => rfl); (case hg => rfl); (case hr => first | (go_simp; done) | (go_simp; rfl)); intro gb238 hg w12 hbox hb; have n0_ := AM (kB (g := gb237) (o := .cells #[.int .i64 a0_0, .int .i64 a0_1, .int .i64 a0_2, .int .i64 a0_3, .bool a0_4] 23 (0, 0)) (kW BK237) hb); have n1_ := AM (bT bQ hb); have n2_ := AM (hbox); have n3_ := AM ((by rw [hg]; exact (bZ bQ) : w.heap.size ≤ gb238)); have n4_ := AM ((by rw [hg]; exact (bZ bQ) : w.heap.size ≤ gb238)); have n5_ := AM ((by rw [hg]; exact Nat.ne_of_lt (blk_lt (g := gb237) (o := .cells #[.int .i64 a0_0, .int .i64 a0_1, .int .i64 a0_2, .int .i64 a0_3, .bool a0_4] 23 (0, 0)) (kW BK237)) : gb237 ≠ gb238)); have n6_ := AM ((by rw [hg]; exact Nat.ne_of_gt (blk_lt (g := gb237) (o := .cells #[.int .i64 a0_0, .int .i64 a0_1, .int .i64 a0_2, .int .i64 a0_3, .bool a0_4] 23 (0, 0)) (kW BK237)) : gb238 ≠ gb237)); clear BK237; clear HB; have BK237 := n0_; have HB := n1_; have BK238 := n2_; have GW238 := n3_; have GE238 := n4_; have NB237_238 := n5_; have NB238_237 := n6_; clear n0_ n1_ n2_ n3_ n4_ n5_ n6_; clear hb hbox hg) | (go_at_call 16; (with_reducible refine (stipendlaw08_codes.calls  true _ A4.out (tQ htb)).mono ?_); rintro e w13 ⟨rfl, hb⟩; have n0_ := AM (kB (g := gb237) (o := .cells #[.int .i64 a0_0, .int .i64 a0_1, .int .i64 a0_2, .int .i64 a0_3, .bool a0_4] 23 (0, 0)) (kW BK237) hb); have n1_ := AM (kB (g := gb238) (o := .cells #[.int .i64 a1_0, .int .i64 a1_1] 45 (0, 0)) (kW BK238) hb); have n2_ := AM (bT bQ hb); clear BK237; clear BK238; clear HB; have BK237 := n0_; have BK238 := n1_; have HB := n2_; clear n0_ n1_ n2_; (try clear hb); (try clear hb2); (try clear hk); (try clear hi); have hnb14 := NB238_237.out; have hnc14 := NB237_238.out; obtain ⟨_, _, _, _⟩ := bX2 BK238.out; obtain ⟨_, _, _, _, _, _, _, _, _, _⟩ := bX5 BK237.out) | (go_at_call 12; (with_reducible refine (code_Check.calls k a0_0 a0_1 a0_2 a0_3 a0_4 t240 _ A6.out).mono ?_); rintro e w17 ⟨rfl, hb⟩; have n0_ := AM (kB (g := gb237) (o := .cells #[.int .i64 a0_0, .int .i64 a0_1, .int .i64 a0_2, .int .i64 a0_3, .bool a0_4] 23 (0, 0)) (kW BK237) hb); have n1_ := AM (kB (g := gb238) (o := .cells #[.int .i64 a1_0, .int .i64 a1_1] 45 (0, 0)) (kW BK238) hb); have n2_ := AM (bT bQ hb); clear BK237; clear BK238; clear HB; have BK237 := n0_; have BK238 := n1_; have HB := n2_; clear n0_ n1_ n2_; (try clear hb); (try clear hb2); (try clear hk); (try clear hi); obtain ⟨_, _, _, _, _, _, _, _, _, _⟩ := bX5 BK237.out) | (go_at_call 15; (with_reducible refine (code_Free.calls k a0_0 a0_1 a0_2 a0_3 a0_4 a1_0 a1_1 t241 t242 _ A8.out).mono ?_); rintro e w19 ⟨rfl, hb⟩; have n0_ := AM (kB (g := gb237) (o := .cells #[.int .i64 a0_0, .int .i64 a0_1, .int .i64 a0_2, .int .i64 a0_3, .bool a0_4] 23 (0, 0)) (kW BK237) hb); have n1_ := AM (kB (g := gb238) (o := .cells #[.int .i64 a1_0, .int .i64 a1_1] 45 (0, 0)) (kW BK238) hb); have n2_ := AM (bT bQ hb); clear BK237; clear BK238; clear HB; have BK237 := n0_; have BK238 := n1_; have HB := n2_; clear n0_ n1_ n2_; (try clear hb); (try clear hb2); (try clear hk); (try clear hi); obtain ⟨_, _, _, _, _, _, _, _, _, _⟩ := bX5 BK237.out) | (go_at_call 17; (with_reducible refine (code_Charge.calls k a0_0 a0_1 a0_2 a0_3 a0_4 a2 a1_0 a1_1 t243 t244 _ A9.out).mono ?_); rintro e w21 ⟨rfl, hb⟩; have n0_ := AM (kB (g := gb237) (o := .cells #[.int .i64 a0_0, .int .i64 a0_1, .int .i64 a0_2, .int .i64 a0_3, .bool a0_4] 23 (0, 0)) (kW BK237) hb); have n1_ := AM (kB (g := gb238) (o := .cells #[.int .i64 a1_0, .int .i64 a1_1] 45 (0, 0)) (kW BK238) hb); have n2_ := AM (bT bQ hb); clear BK237; clear BK238; clear HB; have BK237 := n0_; have BK238 := n1_; have HB := n2_; clear n0_ n1_ n2_; (try clear hb); (try clear hb2); (try clear hk); (try clear hi))))
  (try simp only [Act.put, List.setIfInBounds_toArray, List.set_cons_zero, List.set_cons_succ])
  go_cut [54] (fun v54 wc => ∃ (kq : Nat) (x54_9 : Bool), v54 = .bool x54_9 ∧ Aside0 (stipendlaw08_CodeFrees.j0 kq a2 a1_0 a1_1 t241 t242 t243 t244 x54_9 a0_0 a0_1 a0_2 a0_3 a0_4 = some r) ∧ Aside0 (kq ≤ k) ∧ Aside0 (wc.heap[gb237]? = some (.cells #[.int .i64 a0_0, .int .i64 a0_1, .int .i64 a0_2, .int .i64 a0_3, .bool a0_4] 23 (0, 0))) ∧ Aside0 (wc.heap[gb238]? = some (.cells #[.int .i64 a1_0, .int .i64 a1_1] 45 (0, 0))) ∧ Aside0 (Below w.heap.size w wc))
  case first =>
    have H := HC10.out
    clear HC10
    by_cases c22 : a1_0 < 0
    · rw [if_pos c22] at H
      have c22b0 := decide_eq_true c22
      clear c22
      (first | rw [c22b0] | (simp only [i64_w, i32_w]; rw [c22b0]) | skip)
      have H' := AM H
      clear H
      go_wp2
      repeat (go_quiet (fail); try go_wp2)
      go_meet
      case rel => exact ⟨_, (true), (by first | rfl | (simp; done) | (simp [*]; done)), H', ⟨by first | omega | exact Nat.le_refl _⟩, ⟨by (with_reducible repeat (first | refine kD ?_ _ | refine k1_ ?_ | refine kA ?_ _)); exact BK237.out⟩, ⟨by (with_reducible repeat (first | refine kD ?_ _ | refine k1_ ?_ | refine kA ?_ _)); exact BK238.out⟩, ⟨by repeat (first | (with_reducible first | exact HB.out | apply bA | apply bD | apply b1 | refine bS ?_ GE237.out | refine bS ?_ GE238.out) | exact HB.out)⟩⟩
    rw [if_neg c22] at H
    have c22b0 := decide_eq_false c22
    clear c22
    (first | rw [c22b0] | (simp only [i64_w, i32_w]; rw [c22b0]) | skip)
    by_cases c23 : a1_1 < 1
    · rw [if_pos c23] at H
      have c23b0 := decide_eq_true c23
      clear c23
      have H' := AM H
      clear H
      go_wp2
      repeat (go_quiet (fail); try go_wp2)
      go_meet
      case rel => exact ⟨_, (true), (by first | rfl | (simp; done) | (simp [*]; done)), H', ⟨by first | omega | exact Nat.le_refl _⟩, ⟨by (with_reducible repeat (first | refine kD ?_ _ | refine k1_ ?_ | refine kA ?_ _)); exact BK237.out⟩, ⟨by (with_reducible repeat (first | refine kD ?_ _ | refine k1_ ?_ | refine kA ?_ _)); exact BK238.out⟩, ⟨by repeat (first | (with_reducible first | exact HB.out | apply bA | apply bD | apply b1 | refine bS ?_ GE237.out | refine bS ?_ GE238.out) | exact HB.out)⟩⟩
    rw [if_neg c23] at H
    have c23b0 := decide_eq_false c23
    clear c23
    by_cases c24 : a1_0 > a1_1
    · rw [if_pos c24] at H
      have c24b0 : decide (a1_1 < a1_0) = true := decide_eq_true c24
      clear c24
      have H' := AM H
      clear H
      go_wp2
      repeat (go_quiet (fail); try go_wp2)
      go_meet
      case rel => exact ⟨_, (true), (by first | rfl | (simp; done) | (simp [*]; done)), H', ⟨by first | omega | exact Nat.le_refl _⟩, ⟨by (with_reducible repeat (first | refine kD ?_ _ | refine k1_ ?_ | refine kA ?_ _)); exact BK237.out⟩, ⟨by (with_reducible repeat (first | refine kD ?_ _ | refine k1_ ?_ | refine kA ?_ _)); exact BK238.out⟩, ⟨by repeat (first | (with_reducible first | exact HB.out | apply bA | apply bD | apply b1 | refine bS ?_ GE237.out | refine bS ?_ GE238.out) | exact HB.out)⟩⟩
    rw [if_neg c24] at H
    have c24b0 : decide (a1_1 < a1_0) = false := decide_eq_false c24
    clear c24
    have H' := AM H
    clear H
    go_wp2
    repeat (go_quiet (fail); try go_wp2)
    go_meet
    case rel => exact ⟨_, (decide (a1_1 > 1048576)), (by first | rfl | (simp; done) | (simp [*]; done)), H', ⟨by first | omega | exact Nat.le_refl _⟩, ⟨by (with_reducible repeat (first | refine kD ?_ _ | refine k1_ ?_ | refine kA ?_ _)); exact BK237.out⟩, ⟨by (with_reducible repeat (first | refine kD ?_ _ | refine k1_ ?_ | refine kA ?_ _)); exact BK238.out⟩, ⟨by repeat (first | (with_reducible first | exact HB.out | apply bA | apply bD | apply b1 | refine bS ?_ GE237.out | refine bS ?_ GE238.out) | exact HB.out)⟩⟩
  case rest =>
    clear HC10
    obtain ⟨kq, x54_9, rfl, HA, HJ9, BK237, BK238, HB⟩ := hcut
    cases kq with
    | zero => exact absurd HA.out (by simp [stipendlaw08_CodeFrees.j0])
    | succ kj9 =>
      have H := HA.out
      clear HA
      simp only [stipendlaw08_CodeFrees.j0] at H
      by_cases c25 : x54_9 = true
      · subst c25
        have H1 : (if t242 = 1 then (if t244 = 1 then (if t241 = 0 then (some (t243 == 0)) else (some false)) else (some false)) else (some false)) = some r := by rw [if_pos rfl] at H; exact H
        clear H
        have H := H1
        clear H1
        by_cases c26 : t242 = 1
        rotate_left
        · rw [if_neg c26] at H
          have c26b0 : (t242 == 1) = false := beq_eq_false_iff_ne.mpr c26
          have c26b1 : (t242 != 1) = true := bne_iff_ne.mpr c26
          exact absurd (Option.some.inj H) (by rw [HRT.out]; decide)
        rw [if_pos c26] at H
        have c26b0 : (t242 == 1) = true := beq_iff_eq.mpr c26
        have c26b1 : (t242 != 1) = false := bne_eq_false_iff_eq.mpr c26
        clear c26
        by_cases c27 : t244 = 1
        rotate_left
        · rw [if_neg c27] at H
          have c27b0 : (t244 == 1) = false := beq_eq_false_iff_ne.mpr c27
          have c27b1 : (t244 != 1) = true := bne_iff_ne.mpr c27
          exact absurd (Option.some.inj H) (by rw [HRT.out]; decide)
        rw [if_pos c27] at H
        have c27b0 : (t244 == 1) = true := beq_iff_eq.mpr c27
        have c27b1 : (t244 != 1) = false := bne_eq_false_iff_eq.mpr c27
        clear c27
        by_cases c28 : t241 = 0
        rotate_left
        · rw [if_neg c28] at H
          have c28b0 : (t241 == 0) = false := beq_eq_false_iff_ne.mpr c28
          have c28b1 : (t241 != 0) = true := bne_iff_ne.mpr c28
          exact absurd (Option.some.inj H) (by rw [HRT.out]; decide)
        rw [if_pos c28] at H
        have c28b0 : (t241 == 0) = true := beq_iff_eq.mpr c28
        have c28b1 : (t241 != 0) = false := bne_eq_false_iff_eq.mpr c28
        clear c28
        obtain rfl := Option.some.inj H
        go_wp2
        repeat (go_quiet (fail); try go_wp2)
        go_ret
        exact ⟨by first | rfl | (simp [errW_none, errW_some] <;> rfl) | (simp [*, errW_none, errW_some] <;> rfl), by repeat (first | (with_reducible first | exact HB.out | apply bA | apply bD | apply b1 | refine bS ?_ GE237.out | refine bS ?_ GE238.out) | exact HB.out)⟩
      replace c25 := Bool.eq_false_iff.mpr c25
      subst c25
      have H1 : (if a1_1 = 0 then (none) else (if a0_1 = 2 then (stipendlaw08_CodeFrees.j1 kj9 a2 t241 t242 t243 t244 (wrap64 (-(wrap64 (Int.tdiv (wrap64 (a0_2 * a1_0)) a1_1)))) a0_0 a0_1 a0_2 a0_3 a0_4) else (stipendlaw08_CodeFrees.j1 kj9 a2 t241 t242 t243 t244 (wrap64 (Int.tdiv (wrap64 (a0_2 * a1_0)) a1_1)) a0_0 a0_1 a0_2 a0_3 a0_4))) = some r := by rw [if_neg (show ¬ (false = true) by decide)] at H; exact H
      clear H
      have H := H1
      clear H1
      by_cases c29 : a1_1 = 0
      · rw [if_pos c29] at H
        exact absurd H (by simp)
      rw [if_neg c29] at H
      have c29b0 : (a1_1 == 0) = false := beq_eq_false_iff_ne.mpr c29
      have c29b1 : (a1_1 != 0) = true := bne_iff_ne.mpr c29
      have HC30 := AM H
      clear H
      have hnb31 := NB237_238.out
      have hnc31 := NB238_237.out
      obtain ⟨_, _, _, _, _, _, _, _, _, _⟩ := bX5 BK237.out
      go_upto_if 77 with (fail)
      repeat (go_quiet (fail); go_upto_if 77 with (fail))
      go_cut [13] (fun v13 wc => ∃ (kq : Nat) (x13_29 : Int), v13 = .int .i64 x13_29 ∧ Aside0 (stipendlaw08_CodeFrees.j1 kq a2 t241 t242 t243 t244 x13_29 a0_0 a0_1 a0_2 a0_3 a0_4 = some r) ∧ Aside0 (kq ≤ kj9) ∧ Aside0 (wc.heap[gb237]? = some (.cells #[.int .i64 a0_0, .int .i64 a0_1, .int .i64 a0_2, .int .i64 a0_3, .bool a0_4] 23 (0, 0))) ∧ Aside0 (wc.heap[gb238]? = some (.cells #[.int .i64 a1_0, .int .i64 a1_1] 45 (0, 0))) ∧ Aside0 (Below w.heap.size w wc))
      case first =>
        have H := HC30.out
        clear HC30
        by_cases c33 : a0_1 = 2
        rotate_left
        · rw [if_neg c33] at H
          have c33b0 : (a0_1 == 2) = false := beq_eq_false_iff_ne.mpr c33
          have c33b1 : (a0_1 != 2) = true := bne_iff_ne.mpr c33
          (first | rw [c33b0] | (simp only [i64_w, i32_w]; rw [c33b0]) | skip)
          have H' := AM H
          clear H
          go_wp2
          repeat (go_quiet (fail); try go_wp2)
          go_meet
          case rel => exact ⟨_, (wrap64 (Int.tdiv (wrap64 (a0_2 * a1_0)) a1_1)), (by first | rfl | (simp; done) | (simp [*]; done)), H', ⟨by have := HJ9.out; first | omega | exact Nat.le_refl _⟩, ⟨by (with_reducible repeat (first | refine kD ?_ _ | refine k1_ ?_ | refine kA ?_ _)); exact BK237.out⟩, ⟨by (with_reducible repeat (first | refine kD ?_ _ | refine k1_ ?_ | refine kA ?_ _)); exact BK238.out⟩, ⟨by repeat (first | (with_reducible first | exact HB.out | apply bA | apply bD | apply b1 | refine bS ?_ GE237.out | refine bS ?_ GE238.out) | exact HB.out)⟩⟩
        rw [if_pos c33] at H
        have c33b0 : (a0_1 == 2) = true := beq_iff_eq.mpr c33
        have c33b1 : (a0_1 != 2) = false := bne_eq_false_iff_eq.mpr c33
        clear c33
        (first | rw [c33b0] | (simp only [i64_w, i32_w]; rw [c33b0]) | skip)
        have H' := AM H
        clear H
        go_wp2
        repeat (go_quiet (fail); try go_wp2)
        go_meet
        case rel => exact ⟨_, (wrap64 (-(wrap64 (Int.tdiv (wrap64 (a0_2 * a1_0)) a1_1)))), (by first | rfl | (simp; done) | (simp [*]; done)), H', ⟨by have := HJ9.out; first | omega | exact Nat.le_refl _⟩, ⟨by (with_reducible repeat (first | refine kD ?_ _ | refine k1_ ?_ | refine kA ?_ _)); exact BK237.out⟩, ⟨by (with_reducible repeat (first | refine kD ?_ _ | refine k1_ ?_ | refine kA ?_ _)); exact BK238.out⟩, ⟨by repeat (first | (with_reducible first | exact HB.out | apply bA | apply bD | apply b1 | refine bS ?_ GE237.out | refine bS ?_ GE238.out) | exact HB.out)⟩⟩
      case rest =>
        clear HC30
        obtain ⟨kq, x13_29, rfl, HA, HJ29, BK237, BK238, HB⟩ := hcut
        cases kq with
        | zero => exact absurd HA.out (by simp [stipendlaw08_CodeFrees.j1])
        | succ kj29 =>
          have H := HA.out
          clear HA
          simp only [stipendlaw08_CodeFrees.j1] at H
          have HC34 := AM H
          clear H
          go_upto_region 13 with (fail)
          repeat (go_quiet (fail); go_upto_region 13 with (fail))
          go_cut [86] (fun v86 wc => ∃ (kq : Nat) (x86_33 : Bool), v86 = .bool x86_33 ∧ Aside0 (stipendlaw08_CodeFrees.j2 kq a2 t243 t244 x13_29 x86_33 a0_0 a0_1 a0_2 a0_3 a0_4 = some r) ∧ Aside0 (kq ≤ kj29) ∧ Aside0 (wc.heap[gb237]? = some (.cells #[.int .i64 a0_0, .int .i64 a0_1, .int .i64 a0_2, .int .i64 a0_3, .bool a0_4] 23 (0, 0))) ∧ Aside0 (wc.heap[gb238]? = some (.cells #[.int .i64 a1_0, .int .i64 a1_1] 45 (0, 0))) ∧ Aside0 (Below w.heap.size w wc))
          case first =>
            have H := HC34.out
            clear HC34
            by_cases c35 : t242 = 0
            rotate_left
            · rw [if_neg c35] at H
              have c35b0 : (t242 == 0) = false := beq_eq_false_iff_ne.mpr c35
              have c35b1 : (t242 != 0) = true := bne_iff_ne.mpr c35
              (first | rw [c35b0] | (simp only [i64_w, i32_w]; rw [c35b0]) | skip)
              have H' := AM H
              clear H
              go_wp2
              repeat (go_quiet (fail); try go_wp2)
              go_meet
              case rel => exact ⟨_, (true), (by first | rfl | (simp; done) | (simp [*]; done)), H', ⟨by have := HJ9.out; have := HJ29.out; first | omega | exact Nat.le_refl _⟩, ⟨by (with_reducible repeat (first | refine kD ?_ _ | refine k1_ ?_ | refine kA ?_ _)); exact BK237.out⟩, ⟨by (with_reducible repeat (first | refine kD ?_ _ | refine k1_ ?_ | refine kA ?_ _)); exact BK238.out⟩, ⟨by repeat (first | (with_reducible first | exact HB.out | apply bA | apply bD | apply b1 | refine bS ?_ GE237.out | refine bS ?_ GE238.out) | exact HB.out)⟩⟩
            rw [if_pos c35] at H
            have c35b0 : (t242 == 0) = true := beq_iff_eq.mpr c35
            have c35b1 : (t242 != 0) = false := bne_eq_false_iff_eq.mpr c35
            clear c35
            (first | rw [c35b0] | (simp only [i64_w, i32_w]; rw [c35b0]) | skip)
            have H' := AM H
            clear H
            go_wp2
            repeat (go_quiet (fail); try go_wp2)
            go_meet
            case rel => exact ⟨_, ((t241 != x13_29)), (by first | rfl | (simp; done) | (simp [*]; done)), H', ⟨by have := HJ9.out; have := HJ29.out; first | omega | exact Nat.le_refl _⟩, ⟨by (with_reducible repeat (first | refine kD ?_ _ | refine k1_ ?_ | refine kA ?_ _)); exact BK237.out⟩, ⟨by (with_reducible repeat (first | refine kD ?_ _ | refine k1_ ?_ | refine kA ?_ _)); exact BK238.out⟩, ⟨by repeat (first | (with_reducible first | exact HB.out | apply bA | apply bD | apply b1 | refine bS ?_ GE237.out | refine bS ?_ GE238.out) | exact HB.out)⟩⟩
          case rest =>
            clear HC34
            obtain ⟨kq, x86_33, rfl, HA, HJ33, BK237, BK238, HB⟩ := hcut
            cases kq with
            | zero => exact absurd HA.out (by simp [stipendlaw08_CodeFrees.j2])
            | succ kj33 =>
              have H := HA.out
              clear HA
              simp only [stipendlaw08_CodeFrees.j2] at H
              by_cases c36 : x86_33 = true
              · subst c36
                have H1 : (some false) = some r := by rw [if_pos rfl] at H; exact H
                clear H
                have H := H1
                clear H1
                exact absurd (Option.some.inj H) (by rw [HRT.out]; decide)
              replace c36 := Bool.eq_false_iff.mpr c36
              subst c36
              have H1 : (if a2 > 100000000000 then (stipendlaw08_CodeFrees.j3 kj33 a2 t243 t244 x13_29 100000000000 true a0_0 a0_1 a0_2 a0_3 a0_4) else (stipendlaw08_CodeFrees.j3 kj33 a2 t243 t244 x13_29 100000000000 (decide (a2 < (-100000000000))) a0_0 a0_1 a0_2 a0_3 a0_4)) = some r := by rw [if_neg (show ¬ (false = true) by decide)] at H; exact H
              clear H
              have H := H1
              clear H1
              have HC37 := AM H
              clear H
              go_upto_region 16 with (fail)
              repeat (go_quiet (fail); go_upto_region 16 with (fail))
              go_cut [95] (fun v95 wc => ∃ (kq : Nat) (x95_36 : Bool), v95 = .bool x95_36 ∧ Aside0 (stipendlaw08_CodeFrees.j3 kq a2 t243 t244 x13_29 100000000000 x95_36 a0_0 a0_1 a0_2 a0_3 a0_4 = some r) ∧ Aside0 (kq ≤ kj33) ∧ Aside0 (wc.heap[gb237]? = some (.cells #[.int .i64 a0_0, .int .i64 a0_1, .int .i64 a0_2, .int .i64 a0_3, .bool a0_4] 23 (0, 0))) ∧ Aside0 (wc.heap[gb238]? = some (.cells #[.int .i64 a1_0, .int .i64 a1_1] 45 (0, 0))) ∧ Aside0 (Below w.heap.size w wc))
              case first =>
                have H := HC37.out
                clear HC37
                by_cases c38 : a2 > 100000000000
                · rw [if_pos c38] at H
                  have c38b0 : decide (100000000000 < a2) = true := decide_eq_true c38
                  clear c38
                  (first | rw [c38b0] | (simp only [i64_w, i32_w]; rw [c38b0]) | skip)
                  have H' := AM H
                  clear H
                  go_wp2
                  repeat (go_quiet (fail); try go_wp2)
                  go_meet
                  case rel => exact ⟨_, (true), (by first | rfl | (simp; done) | (simp [*]; done)), H', ⟨by have := HJ9.out; have := HJ29.out; have := HJ33.out; first | omega | exact Nat.le_refl _⟩, ⟨by (with_reducible repeat (first | refine kD ?_ _ | refine k1_ ?_ | refine kA ?_ _)); exact BK237.out⟩, ⟨by (with_reducible repeat (first | refine kD ?_ _ | refine k1_ ?_ | refine kA ?_ _)); exact BK238.out⟩, ⟨by repeat (first | (with_reducible first | exact HB.out | apply bA | apply bD | apply b1 | refine bS ?_ GE237.out | refine bS ?_ GE238.out) | exact HB.out)⟩⟩
                rw [if_neg c38] at H
                have c38b0 : decide (100000000000 < a2) = false := decide_eq_false c38
                clear c38
                (first | rw [c38b0] | (simp only [i64_w, i32_w]; rw [c38b0]) | skip)
                have H' := AM H
                clear H
                go_wp2
                repeat (go_quiet (fail); try go_wp2)
                go_meet
                case rel => exact ⟨_, (decide (a2 < (-100000000000))), (by first | rfl | (simp; done) | (simp [*]; done)), H', ⟨by have := HJ9.out; have := HJ29.out; have := HJ33.out; first | omega | exact Nat.le_refl _⟩, ⟨by (with_reducible repeat (first | refine kD ?_ _ | refine k1_ ?_ | refine kA ?_ _)); exact BK237.out⟩, ⟨by (with_reducible repeat (first | refine kD ?_ _ | refine k1_ ?_ | refine kA ?_ _)); exact BK238.out⟩, ⟨by repeat (first | (with_reducible first | exact HB.out | apply bA | apply bD | apply b1 | refine bS ?_ GE237.out | refine bS ?_ GE238.out) | exact HB.out)⟩⟩
              case rest =>
                clear HC37
                obtain ⟨kq, x95_36, rfl, HA, HJ36, BK237, BK238, HB⟩ := hcut
                cases kq with
                | zero => exact absurd HA.out (by simp [stipendlaw08_CodeFrees.j3])
                | succ kj36 =>
                  have H := HA.out
                  clear HA
                  simp only [stipendlaw08_CodeFrees.j3] at H
                  by_cases c39 : x95_36 = true
                  · subst c39
                    have H1 : (if t244 = 10 then (some (t243 == 0)) else (some false)) = some r := by rw [if_pos rfl] at H; exact H
                    clear H
                    have H := H1
                    clear H1
                    by_cases c40 : t244 = 10
                    rotate_left
                    · rw [if_neg c40] at H
                      have c40b0 : (t244 == 10) = false := beq_eq_false_iff_ne.mpr c40
                      have c40b1 : (t244 != 10) = true := bne_iff_ne.mpr c40
                      exact absurd (Option.some.inj H) (by rw [HRT.out]; decide)
                    rw [if_pos c40] at H
                    have c40b0 : (t244 == 10) = true := beq_iff_eq.mpr c40
                    have c40b1 : (t244 != 10) = false := bne_eq_false_iff_eq.mpr c40
                    clear c40
                    obtain rfl := Option.some.inj H
                    go_wp2
                    repeat (go_quiet (fail); try go_wp2)
                    go_ret
                    exact ⟨by first | rfl | (simp [errW_none, errW_some] <;> rfl) | (simp [*, errW_none, errW_some] <;> rfl), by repeat (first | (with_reducible first | exact HB.out | apply bA | apply bD | apply b1 | refine bS ?_ GE237.out | refine bS ?_ GE238.out) | exact HB.out)⟩
                  replace c39 := Bool.eq_false_iff.mpr c39
                  subst c39
                  have H1 : (if a0_1 = 4 then (if t244 = 0 then (some (t243 == 0)) else (some false)) else (if (wrap64 (a2 - x13_29)) > 100000000000 then (if t244 = 10 then (some (t243 == 0)) else (some false)) else (if (wrap64 (a2 - x13_29)) < (wrap64 (-100000000000)) then (if t244 = 10 then (some (t243 == 0)) else (some false)) else (if t244 = 0 then (some (t243 == (mx 0 (wrap64 (a2 - x13_29))))) else (some false))))) = some r := by rw [if_neg (show ¬ (false = true) by decide)] at H; exact H
                  clear H
                  have H := H1
                  clear H1
                  by_cases c41 : a0_1 = 4
                  · rw [if_pos c41] at H
                    have c41b0 : (a0_1 == 4) = true := beq_iff_eq.mpr c41
                    have c41b1 : (a0_1 != 4) = false := bne_eq_false_iff_eq.mpr c41
                    clear c41
                    by_cases c42 : t244 = 0
                    rotate_left
                    · rw [if_neg c42] at H
                      have c42b0 : (t244 == 0) = false := beq_eq_false_iff_ne.mpr c42
                      have c42b1 : (t244 != 0) = true := bne_iff_ne.mpr c42
                      exact absurd (Option.some.inj H) (by rw [HRT.out]; decide)
                    rw [if_pos c42] at H
                    have c42b0 : (t244 == 0) = true := beq_iff_eq.mpr c42
                    have c42b1 : (t244 != 0) = false := bne_eq_false_iff_eq.mpr c42
                    clear c42
                    obtain rfl := Option.some.inj H
                    have hnb43 := NB237_238.out
                    have hnc43 := NB238_237.out
                    obtain ⟨_, _, _, _, _, _, _, _, _, _⟩ := bX5 BK237.out
                    go_wp2
                    repeat (go_quiet (fail); try go_wp2)
                    go_ret
                    exact ⟨by first | rfl | (simp [errW_none, errW_some] <;> rfl) | (simp [*, errW_none, errW_some] <;> rfl), by repeat (first | (with_reducible first | exact HB.out | apply bA | apply bD | apply b1 | refine bS ?_ GE237.out | refine bS ?_ GE238.out) | exact HB.out)⟩
                  rw [if_neg c41] at H
                  have c41b0 : (a0_1 == 4) = false := beq_eq_false_iff_ne.mpr c41
                  have c41b1 : (a0_1 != 4) = true := bne_iff_ne.mpr c41
                  by_cases c45 : (wrap64 (a2 - x13_29)) > 100000000000
                  · rw [if_pos c45] at H
                    have c45b0 : decide (100000000000 < (wrap64 (a2 - x13_29))) = true := decide_eq_true c45
                    clear c45
                    by_cases c46 : t244 = 10
                    rotate_left
                    · rw [if_neg c46] at H
                      have c46b0 : (t244 == 10) = false := beq_eq_false_iff_ne.mpr c46
                      have c46b1 : (t244 != 10) = true := bne_iff_ne.mpr c46
                      exact absurd (Option.some.inj H) (by rw [HRT.out]; decide)
                    rw [if_pos c46] at H
                    have c46b0 : (t244 == 10) = true := beq_iff_eq.mpr c46
                    have c46b1 : (t244 != 10) = false := bne_eq_false_iff_eq.mpr c46
                    clear c46
                    obtain rfl := Option.some.inj H
                    have hnb47 := NB237_238.out
                    have hnc47 := NB238_237.out
                    obtain ⟨_, _, _, _, _, _, _, _, _, _⟩ := bX5 BK237.out
                    go_wp2
                    repeat (go_quiet (fail); try go_wp2)
                    go_ret
                    exact ⟨by first | rfl | (simp [errW_none, errW_some] <;> rfl) | (simp [*, errW_none, errW_some] <;> rfl), by repeat (first | (with_reducible first | exact HB.out | apply bA | apply bD | apply b1 | refine bS ?_ GE237.out | refine bS ?_ GE238.out) | exact HB.out)⟩
                  rw [if_neg c45] at H
                  have c45b0 : decide (100000000000 < (wrap64 (a2 - x13_29))) = false := decide_eq_false c45
                  clear c45
                  by_cases c49 : (wrap64 (a2 - x13_29)) < (wrap64 (-100000000000))
                  · rw [if_pos c49] at H
                    have c49b0 := decide_eq_true c49
                    have c49b1 : decide ((wrap64 (a2 - x13_29)) < (-100000000000)) = true := decide_eq_true (by have h := c49; rw [show wrap64 (-100000000000) = -100000000000 from (by unfold wrap64; omega)] at h; exact h)
                    clear c49
                    by_cases c50 : t244 = 10
                    rotate_left
                    · rw [if_neg c50] at H
                      have c50b0 : (t244 == 10) = false := beq_eq_false_iff_ne.mpr c50
                      have c50b1 : (t244 != 10) = true := bne_iff_ne.mpr c50
                      exact absurd (Option.some.inj H) (by rw [HRT.out]; decide)
                    rw [if_pos c50] at H
                    have c50b0 : (t244 == 10) = true := beq_iff_eq.mpr c50
                    have c50b1 : (t244 != 10) = false := bne_eq_false_iff_eq.mpr c50
                    clear c50
                    obtain rfl := Option.some.inj H
                    have hnb51 := NB237_238.out
                    have hnc51 := NB238_237.out
                    obtain ⟨_, _, _, _, _, _, _, _, _, _⟩ := bX5 BK237.out
                    go_wp2
                    repeat (go_quiet (fail); try go_wp2)
                    go_ret
                    exact ⟨by first | rfl | (simp [errW_none, errW_some] <;> rfl) | (simp [*, errW_none, errW_some] <;> rfl), by repeat (first | (with_reducible first | exact HB.out | apply bA | apply bD | apply b1 | refine bS ?_ GE237.out | refine bS ?_ GE238.out) | exact HB.out)⟩
                  rw [if_neg c49] at H
                  have c49b0 := decide_eq_false c49
                  have c49b1 : decide ((wrap64 (a2 - x13_29)) < (-100000000000)) = false := decide_eq_false (by have h := c49; rw [show wrap64 (-100000000000) = -100000000000 from (by unfold wrap64; omega)] at h; exact h)
                  clear c49
                  by_cases c53 : t244 = 0
                  rotate_left
                  · rw [if_neg c53] at H
                    have c53b0 : (t244 == 0) = false := beq_eq_false_iff_ne.mpr c53
                    have c53b1 : (t244 != 0) = true := bne_iff_ne.mpr c53
                    exact absurd (Option.some.inj H) (by rw [HRT.out]; decide)
                  rw [if_pos c53] at H
                  have c53b0 : (t244 == 0) = true := beq_iff_eq.mpr c53
                  have c53b1 : (t244 != 0) = false := bne_eq_false_iff_eq.mpr c53
                  clear c53
                  obtain ⟨ji54, hji54⟩ : ∃ j_ : Int, (mx 0 (wrap64 (a2 - x13_29))) = j_ := ⟨_, rfl⟩
                  replace H : (some (t243 == (ji54))) = some r := by first | (rw [hji54] at H; exact H) | (simp only [hji54] at H ⊢; exact H)
                  have hji54_ : (if 0 < (wrap64 (a2 - x13_29)) then (wrap64 (a2 - x13_29)) else 0) = ji54 := hji54
                  obtain rfl := Option.some.inj H
                  have hnb55 := NB237_238.out
                  have hnc55 := NB238_237.out
                  obtain ⟨_, _, _, _, _, _, _, _, _, _⟩ := bX5 BK237.out
                  go_wp2
                  repeat (go_quiet (fail); try go_wp2)
                  go_ret
                  exact ⟨by first | rfl | (simp [errW_none, errW_some] <;> rfl) | (simp only [← hji54]; first | rfl | (simp [errW_none, errW_some] <;> rfl)) | (simp [*, errW_none, errW_some] <;> rfl), by repeat (first | (with_reducible first | exact HB.out | apply bA | apply bD | apply b1 | refine bS ?_ GE237.out | refine bS ?_ GE238.out) | exact HB.out)⟩
end Go.Proofs.YtodijkdmcjnpkaaDoor.K
