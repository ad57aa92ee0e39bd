-- by a program of this session, over the kit's printer
import Derived.Test.YtodijkdmcjnpkaaDoorKx0
import Derived.Test.YtodijkdmcjnpkaaDoorKx1
import Derived.Test.YtodijkdmcjnpkaaDoorKx2
import Derived.Test.YtodijkdmcjnpkaaDoorKx4
import Derived.Test.YtodijkdmcjnpkaaDoorKx5
import Derived.Test.YtodijkdmcjnpkaaDoorKx6
import Derived.Test.YtodijkdmcjnpkaaDoorKx12
import Derived.Test.YtodijkdmcjnpkaaDoorKJoin
namespace Go.Proofs.YtodijkdmcjnpkaaDoor.K
open Go.RowKit Go.Proofs.YtodijkdmcjnpkaaDoorW.PrintWords Go.Proofs.YtodijkdmcjnpkaaDoorW.PrintLast Go.Proofs.YtodijkdmcjnpkaaDoorW.PrintMore
attribute [local go_sem] max2_int min2_int max_two min_two max_three min_three max_four min_four   -- for this text's walks alone
set_option linter.unusedVariables false
set_option linter.unusedSimpArgs false

attribute [local go_sem high] eqA23
/-! ### stipendtop_WholeCodes: function 3 -/
mutual
def stipendtop_WholeCodes.j0 : Nat → List ByteArray → Int → Bool → Int → Int → Int → Int → Bool → Option (Bool)
  | 0, _, _, _, _, _, _, _, _ => none
  | k + 1, x1, x2, x37, x279000, x279001, x279002, x279003, x279004 => if x37 = true then (some false) else ((code_Text.f k x279000 x279001 x279002 x279003 x279004).bind fun t287 => (if t287.toList = ([] : List UInt8) then (stipendtop_WholeCodes.j1 k x1 x2 t287 true x279000 x279001 x279002 x279003 x279004) else (stipendtop_WholeCodes.j1 k x1 x2 t287 (decide ((x1.length : Int) > 20)) x279000 x279001 x279002 x279003 x279004)))
def stipendtop_WholeCodes.j1 : Nat → List ByteArray → Int → ByteArray → Bool → Int → Int → Int → Int → Bool → Option (Bool)
  | 0, _, _, _, _, _, _, _, _, _ => none
  | k + 1, x1, x2, x9, x46, x279000, x279001, x279002, x279003, x279004 => if x46 = true then ((code_Check.f k x279000 x279001 x279002 x279003 x279004).bind fun t288 => (if t288 = 0 then (some (decide ((x1.length : Int) > 20))) else (some true))) else (stipendtop_WholeCodes.l0 k x1 x2 x9 (x9.size : Int) x1 (x1.length : Int) 0 x279000 x279001 x279002 x279003 x279004)
def stipendtop_WholeCodes.l0 : Nat → List ByteArray → Int → ByteArray → Int → List ByteArray → Int → Int → Int → Int → Int → Int → Bool → Option (Bool)
  | 0, _, _, _, _, _, _, _, _, _, _, _, _ => none
  | k + 1, x1, x2, x9, x10, x57, x58, x59, x279000, x279001, x279002, x279003, x279004 => if x59 < x58 then (if 0 ≤ x59 then (if x59 < (x57.length : Int) then (if ((rdOf ByteArray.empty x57 x59).size : Int) > 400 then (some true) else (if (wrap64 (x10 + (wrap64 (((rdOf ByteArray.empty x57 x59).size : Int) + 3)))) > 500 then (some true) else (stipendtop_WholeCodes.l0 k x1 x2 x9 (wrap64 (x10 + (wrap64 (((rdOf ByteArray.empty x57 x59).size : Int) + 3)))) x57 x58 (wrap64 (x59 + 1)) x279000 x279001 x279002 x279003 x279004))) else (none)) else (none)) else ((some (([] : List ByteArray) : List ByteArray)).bind fun y290 => (if y290.length + x1.length < 8796093022208 then ((some (y290 ++ x1 : List ByteArray)).bind fun y293 => (if y293.length < 8796093022208 then ((word_Join.f (y293 ++ [x9])).bind fun bt299 => (if bt299.2 = 0 then ((word_Cut.f bt299.1).bind fun bt301 => (if bt301.2 = 0 then (stipendtop_WholeCodes.j3 k x1 x2 bt301.1 ((bt301.1.length : Int) != (wrap64 ((x1.length : Int) + 1))) x279000 x279001 x279002 x279003 x279004) else (stipendtop_WholeCodes.j3 k x1 x2 bt301.1 true x279000 x279001 x279002 x279003 x279004))) else (some (bt299.2 == 5)))) else (none))) else (none)))
def stipendtop_WholeCodes.j3 : Nat → List ByteArray → Int → List ByteArray → Bool → Int → Int → Int → Int → Bool → Option (Bool)
  | 0, _, _, _, _, _, _, _, _, _ => none
  | k + 1, x1, x2, x15, x104, x279000, x279001, x279002, x279003, x279004 => if x104 = true then (some false) else (if 0 ≤ (x1.length : Int) then (if (x1.length : Int) < (x15.length : Int) then ((code_Parse.f k (rdOf ByteArray.empty x15 (x1.length : Int))).bind fun bt306 => (if bt306.2.2.2.2.2 = 0 then (stipendtop_WholeCodes.j4 k x2 (!(bt306.1 == x279000) || (!(bt306.2.1 == x279001) || (!(bt306.2.2.1 == x279002) || (!(bt306.2.2.2.1 == x279003) || (!(bt306.2.2.2.2.1 == x279004)))))) x279000 x279001 x279002 x279003 x279004) else (stipendtop_WholeCodes.j4 k x2 true x279000 x279001 x279002 x279003 x279004))) else (none)) else (none))
def stipendtop_WholeCodes.j4 : Nat → Int → Bool → Int → Int → Int → Int → Bool → Option (Bool)
  | 0, _, _, _, _, _, _, _ => none
  | k + 1, x2, x120, x279000, x279001, x279002, x279003, x279004 => if x120 = true then (some false) else (if x2 < 0 then (stipendtop_WholeCodes.j5 k x2 true x279000 x279001 x279002 x279003 x279004) else (stipendtop_WholeCodes.j5 k x2 (decide (x2 > 12)) x279000 x279001 x279002 x279003 x279004))
def stipendtop_WholeCodes.j5 : Nat → Int → Bool → Int → Int → Int → Int → Bool → Option (Bool)
  | 0, _, _, _, _, _, _, _ => none
  | k + 1, x2, x126, x279000, x279001, x279002, x279003, x279004 => if x126 = true then (some true) else ((code_Free.f k x279000 x279001 x279002 x279003 x279004 x2 12).bind fun bt313 => ((code_Free.f k x279000 x279001 x279002 x279003 x279004 (wrap64 (12 - x2)) 12).bind fun bt315 => ((code_Free.f k x279000 x279001 x279002 x279003 x279004 12 12).bind fun bt317 => (if x279001 = 2 then (if (wrap64 ((wrap64 (bt313.2 + bt315.2)) + bt317.2)) = 0 then (if (wrap64 (-(wrap64 ((wrap64 (bt317.1 - bt313.1)) - bt315.1)))) ≥ 0 then (some (decide ((wrap64 (-(wrap64 ((wrap64 (bt317.1 - bt313.1)) - bt315.1)))) ≤ 1))) else (some false)) else (some false)) else (if (wrap64 ((wrap64 (bt313.2 + bt315.2)) + bt317.2)) = 0 then (if (wrap64 ((wrap64 (bt317.1 - bt313.1)) - bt315.1)) ≥ 0 then (some (decide ((wrap64 ((wrap64 (bt317.1 - bt313.1)) - bt315.1)) ≤ 1))) else (some false)) else (some false))))))
end
def stipendtop_WholeCodes.f (k : Nat) (a0_0 : Int) (a0_1 : Int) (a0_2 : Int) (a0_3 : Int) (a0_4 : Bool) (l1 : List ByteArray) (a2 : Int) : Option (Bool) := (code_Parse.f k (⟨#[53, 76]⟩ : ByteArray)).bind fun bt279 => (if bt279.2.2.2.2.2 = 0 then (if bt279.2.2.1 = 5000 then ((word_Name.f k (⟨#[97]⟩ : ByteArray)).bind fun t286 => (stipendtop_WholeCodes.j0 k l1 a2 (!t286) a0_0 a0_1 a0_2 a0_3 a0_4)) else (stipendtop_WholeCodes.j0 k l1 a2 true a0_0 a0_1 a0_2 a0_3 a0_4)) else (stipendtop_WholeCodes.j0 k l1 a2 true a0_0 a0_1 a0_2 a0_3 a0_4))
set_option maxHeartbeats 60000000 in
set_option maxRecDepth 100000 in
theorem stipendtop_WholeCodes.calls (k : Nat) (a0_0 : Int) (a0_1 : Int) (a0_2 : Int) (a0_3 : Int) (a0_4 : Bool) (A1 : Option Addr) (c1 : Nat) (l1 : List ByteArray) (a2 : Int) (r : Bool) (w : World) (hr1 : Kd.C Kd.string w A1 l1.length l1) (hc1 : l1.length ≤ c1) (hrt : r = true) (h : stipendtop_WholeCodes.f k a0_0 a0_1 a0_2 a0_3 a0_4 l1 a2 = some r) (htb : TB w) :
    Calls Tryd.prog 3 #[.agg #[.int .i64 a0_0, .int .i64 a0_1, .int .i64 a0_2, .int .i64 a0_3, .bool a0_4], .slice A1 l1.length c1, .int .i64 a2] w fun e w' => e = .returned (.bool r) ∧ Below w.heap.size w w' := by
  have HRT := AM hrt
  clear hrt
  have hu23 := Tryd.underlying23
  have HR1 := AM hr1
  have HC1 := AM hc1
  clear hr1 hc1
  have HB := AM (Below.refl w.heap.size w)
  have H : ((code_Parse.f k (⟨#[53, 76]⟩ : ByteArray)).bind fun bt279 => (if bt279.2.2.2.2.2 = 0 then (if bt279.2.2.1 = 5000 then ((word_Name.f k (⟨#[97]⟩ : ByteArray)).bind fun t286 => (stipendtop_WholeCodes.j0 k l1 a2 (!t286) a0_0 a0_1 a0_2 a0_3 a0_4)) else (stipendtop_WholeCodes.j0 k l1 a2 true a0_0 a0_1 a0_2 a0_3 a0_4)) else (stipendtop_WholeCodes.j0 k l1 a2 true a0_0 a0_1 a0_2 a0_3 a0_4))) = some r := h
  clear h
  replace H := Option.bind_eq_some_iff.mp H
  obtain ⟨⟨t279, t280, t281, t282, t283, t284⟩, A40, H⟩ := H
  replace H : (if t284 = 0 then (if t281 = 5000 then ((word_Name.f k (⟨#[97]⟩ : ByteArray)).bind fun t286 => (stipendtop_WholeCodes.j0 k l1 a2 (!t286) a0_0 a0_1 a0_2 a0_3 a0_4)) else (stipendtop_WholeCodes.j0 k l1 a2 true a0_0 a0_1 a0_2 a0_3 a0_4)) else (stipendtop_WholeCodes.j0 k l1 a2 true a0_0 a0_1 a0_2 a0_3 a0_4)) = some r := H
  have A4 := AM A40
  clear A40
  have HC5 := AM H
  clear H
  go_enter Tryd.func3, Tryd.ntmps3
  go_upto_region 2 with (first | ((with_reducible refine gD (N := 3) rfl ?_); (try (refine gG (by rfl) ?_; dsimp only)); refine bE ?hg (N := 3) ?hd (cs := #[.int .i64 a0_0, .int .i64 a0_1, .int .i64 a0_2, .int .i64 a0_3, .bool a0_4]) (t := 23) ?hr ?_; (case hd => rfl); (case hg => rfl); (case hr => first | (go_simp; done) | (go_simp; rfl)); intro gb278 hg w6 hbox hb; have n0_ := AM (bT bQ hb); have n1_ := AM (hbox); have n2_ := AM ((by rw [hg]; exact (bZ bQ) : w.heap.size ≤ gb278)); have n3_ := AM ((by rw [hg]; exact (bZ bQ) : w.heap.size ≤ gb278)); clear HB; have HB := n0_; have BK278 := n1_; have GW278 := n2_; have GE278 := n3_; clear n0_ n1_ n2_ n3_; clear hb hbox hg) | ((with_reducible refine gC (f := 9) rfl ?_); refine gL (some 24) rfl rfl Tryd.func9 (by kernel_rfl) rfl #[.string (⟨#[53, 76]⟩ : ByteArray)] rfl (by (try simp only [List.map_toArray, List.map_cons, List.map_nil]); first | done | rfl | (simp only [List.length_drop, List.length_take]; rfl)) ?_; (with_reducible refine (code_Parse.calls k (⟨#[53, 76]⟩ : ByteArray) t279 t280 t281 t282 t283 t284 _ A4.out).mono ?_); rintro e w7 ⟨rfl, hb⟩; refine ⟨_, rfl, ?_⟩; have n0_ := AM (kB (g := gb278) (o := .cells #[.int .i64 a0_0, .int .i64 a0_1, .int .i64 a0_2, .int .i64 a0_3, .bool a0_4] 23 (0, 0)) (kW BK278) hb); have n1_ := AM (bT bQ hb); clear BK278; clear HB; have BK278 := n0_; have HB := n1_; clear n0_ n1_; (try clear hb); (try clear hb2); (try clear hk); (try clear hi)) | ((with_reducible refine gD (N := 7) rfl ?_); (try (refine gG (by rfl) ?_; dsimp only)); refine bE ?hg (N := 7) ?hd (cs := #[.int .i64 0, .int .i64 0, .int .i64 0, .int .i64 0, .bool false]) (t := 23) ?hr ?_; (case hd => rfl); (case hg => rfl); (case hr => first | (go_simp; done) | (go_simp; rfl)); intro gb285 hg w8 hbox hb; have n0_ := AM (kB (g := gb278) (o := .cells #[.int .i64 a0_0, .int .i64 a0_1, .int .i64 a0_2, .int .i64 a0_3, .bool a0_4] 23 (0, 0)) (kW BK278) hb); have n1_ := AM (bT bQ hb); have n2_ := AM (hbox); have n3_ := AM ((by rw [hg]; exact (bZ bQ) : w.heap.size ≤ gb285)); have n4_ := AM ((by rw [hg]; exact (bZ bQ) : w.heap.size ≤ gb285)); have n5_ := AM ((by rw [hg]; exact Nat.ne_of_lt (blk_lt (g := gb278) (o := .cells #[.int .i64 a0_0, .int .i64 a0_1, .int .i64 a0_2, .int .i64 a0_3, .bool a0_4] 23 (0, 0)) (kW BK278)) : gb278 ≠ gb285)); have n6_ := AM ((by rw [hg]; exact Nat.ne_of_gt (blk_lt (g := gb278) (o := .cells #[.int .i64 a0_0, .int .i64 a0_1, .int .i64 a0_2, .int .i64 a0_3, .bool a0_4] 23 (0, 0)) (kW BK278)) : gb285 ≠ gb278)); clear BK278; clear HB; have BK278 := n0_; have HB := n1_; have BK285 := n2_; have GW285 := n3_; have GE285 := n4_; have NB278_285 := n5_; have NB285_278 := n6_; clear n0_ n1_ n2_ n3_ n4_ n5_ n6_; clear hb hbox hg; have hnb9 := NB285_278.out; have hnc9 := NB278_285.out; obtain ⟨_, _, _, _, _, _, _, _, _, _⟩ := bX5 BK285.out))
  (try simp only [Act.put, List.setIfInBounds_toArray, List.set_cons_zero, List.set_cons_succ])
  go_cut [37] (fun v37 wc => ∃ (kq : Nat) (x37_4 : Bool), v37 = .bool x37_4 ∧ Aside0 (stipendtop_WholeCodes.j0 kq l1 a2 x37_4 a0_0 a0_1 a0_2 a0_3 a0_4 = some r) ∧ Aside0 (kq ≤ k) ∧ Aside0 (wc.heap[gb278]? = some (.cells #[.int .i64 a0_0, .int .i64 a0_1, .int .i64 a0_2, .int .i64 a0_3, .bool a0_4] 23 (0, 0))) ∧ Aside0 (wc.heap[gb285]? = some (.cells #[.int .i64 t279, .int .i64 t280, .int .i64 t281, .int .i64 t282, .bool t283] 23 (0, 0))) ∧ Aside0 (Below w.heap.size w wc))
  case first =>
    have H := HC5.out
    clear HC5
    by_cases c11 : t284 = 0
    rotate_left
    · rw [if_neg c11] at H
      have c11b0 : (t284 == 0) = false := beq_eq_false_iff_ne.mpr c11
      have c11b1 : (t284 != 0) = true := bne_iff_ne.mpr c11
      (first | rw [c11b0] | (simp only [i64_w, i32_w]; rw [c11b0]) | skip)
      have H' := AM H
      clear H
      go_wp2
      go_meet
      case rel => exact ⟨_, (true), (by first | rfl | (simp; done) | (simp [*]; done)), H', ⟨by first | omega | exact Nat.le_refl _⟩, ⟨by (with_reducible repeat (first | refine kD ?_ _ | refine k1_ ?_ | refine kA ?_ _)); refine kF ?_ NB278_285.out _; (with_reducible repeat (first | refine kD ?_ _ | refine k1_ ?_ | refine kA ?_ _)); refine kF ?_ NB278_285.out _; (with_reducible repeat (first | refine kD ?_ _ | refine k1_ ?_ | refine kA ?_ _)); refine kF ?_ NB278_285.out _; (with_reducible repeat (first | refine kD ?_ _ | refine k1_ ?_ | refine kA ?_ _)); refine kF ?_ NB278_285.out _; (with_reducible repeat (first | refine kD ?_ _ | refine k1_ ?_ | refine kA ?_ _)); refine kF ?_ NB278_285.out _; (with_reducible repeat (first | refine kD ?_ _ | refine k1_ ?_ | refine kA ?_ _)); exact BK278.out⟩, ⟨by (with_reducible repeat (first | refine kD ?_ _ | refine k1_ ?_ | refine kA ?_ _)); refine kP (cs := #[.int .i64 t279, .int .i64 t280, .int .i64 t281, .int .i64 t282, .bool false]) ?_ 4 _ (by first | rfl | (simp only [u8w]; rfl)); (with_reducible repeat (first | refine kD ?_ _ | refine k1_ ?_ | refine kA ?_ _)); refine kP (cs := #[.int .i64 t279, .int .i64 t280, .int .i64 t281, .int .i64 0, .bool false]) ?_ 3 _ (by first | rfl | (simp only [u8w]; rfl)); (with_reducible repeat (first | refine kD ?_ _ | refine k1_ ?_ | refine kA ?_ _)); refine kP (cs := #[.int .i64 t279, .int .i64 t280, .int .i64 0, .int .i64 0, .bool false]) ?_ 2 _ (by first | rfl | (simp only [u8w]; rfl)); (with_reducible repeat (first | refine kD ?_ _ | refine k1_ ?_ | refine kA ?_ _)); refine kP (cs := #[.int .i64 t279, .int .i64 0, .int .i64 0, .int .i64 0, .bool false]) ?_ 1 _ (by first | rfl | (simp only [u8w]; rfl)); (with_reducible repeat (first | refine kD ?_ _ | refine k1_ ?_ | refine kA ?_ _)); refine kP (cs := #[.int .i64 0, .int .i64 0, .int .i64 0, .int .i64 0, .bool false]) ?_ 0 _ (by first | rfl | (simp only [u8w]; rfl)); (with_reducible repeat (first | refine kD ?_ _ | refine k1_ ?_ | refine kA ?_ _)); exact BK285.out⟩, ⟨by repeat (first | (with_reducible first | exact HB.out | apply bA | apply bD | apply b1 | refine bS ?_ GE278.out | refine bS ?_ GE285.out) | exact HB.out)⟩⟩
    rw [if_pos c11] at H
    have c11b0 : (t284 == 0) = true := beq_iff_eq.mpr c11
    have c11b1 : (t284 != 0) = false := bne_eq_false_iff_eq.mpr c11
    clear c11
    (first | rw [c11b0] | (simp only [i64_w, i32_w]; rw [c11b0]) | skip)
    by_cases c12 : t281 = 5000
    rotate_left
    · rw [if_neg c12] at H
      have c12b0 : (t281 == 5000) = false := beq_eq_false_iff_ne.mpr c12
      have c12b1 : (t281 != 5000) = true := bne_iff_ne.mpr c12
      have H' := AM H
      clear H
      have hnb16 := NB285_278.out
      have hnc16 := NB278_285.out
      obtain ⟨_, _, _, _, _, _, _, _, _, _⟩ := bX5 BK285.out
      go_wp2
      go_meet
      case rel => exact ⟨_, (true), (by first | rfl | (simp; done) | (simp [*]; done)), H', ⟨by first | omega | exact Nat.le_refl _⟩, ⟨by (with_reducible repeat (first | refine kD ?_ _ | refine k1_ ?_ | refine kA ?_ _)); refine kF ?_ NB278_285.out _; (with_reducible repeat (first | refine kD ?_ _ | refine k1_ ?_ | refine kA ?_ _)); refine kF ?_ NB278_285.out _; (with_reducible repeat (first | refine kD ?_ _ | refine k1_ ?_ | refine kA ?_ _)); refine kF ?_ NB278_285.out _; (with_reducible repeat (first | refine kD ?_ _ | refine k1_ ?_ | refine kA ?_ _)); refine kF ?_ NB278_285.out _; (with_reducible repeat (first | refine kD ?_ _ | refine k1_ ?_ | refine kA ?_ _)); refine kF ?_ NB278_285.out _; (with_reducible repeat (first | refine kD ?_ _ | refine k1_ ?_ | refine kA ?_ _)); exact BK278.out⟩, ⟨by (with_reducible repeat (first | refine kD ?_ _ | refine k1_ ?_ | refine kA ?_ _)); refine kP (cs := #[.int .i64 t279, .int .i64 t280, .int .i64 t281, .int .i64 t282, .bool false]) ?_ 4 _ (by first | rfl | (simp only [u8w]; rfl)); (with_reducible repeat (first | refine kD ?_ _ | refine k1_ ?_ | refine kA ?_ _)); refine kP (cs := #[.int .i64 t279, .int .i64 t280, .int .i64 t281, .int .i64 0, .bool false]) ?_ 3 _ (by first | rfl | (simp only [u8w]; rfl)); (with_reducible repeat (first | refine kD ?_ _ | refine k1_ ?_ | refine kA ?_ _)); refine kP (cs := #[.int .i64 t279, .int .i64 t280, .int .i64 0, .int .i64 0, .bool false]) ?_ 2 _ (by first | rfl | (simp only [u8w]; rfl)); (with_reducible repeat (first | refine kD ?_ _ | refine k1_ ?_ | refine kA ?_ _)); refine kP (cs := #[.int .i64 t279, .int .i64 0, .int .i64 0, .int .i64 0, .bool false]) ?_ 1 _ (by first | rfl | (simp only [u8w]; rfl)); (with_reducible repeat (first | refine kD ?_ _ | refine k1_ ?_ | refine kA ?_ _)); refine kP (cs := #[.int .i64 0, .int .i64 0, .int .i64 0, .int .i64 0, .bool false]) ?_ 0 _ (by first | rfl | (simp only [u8w]; rfl)); (with_reducible repeat (first | refine kD ?_ _ | refine k1_ ?_ | refine kA ?_ _)); exact BK285.out⟩, ⟨by repeat (first | (with_reducible first | exact HB.out | apply bA | apply bD | apply b1 | refine bS ?_ GE278.out | refine bS ?_ GE285.out) | exact HB.out)⟩⟩
    rw [if_pos c12] at H
    have c12b0 : (t281 == 5000) = true := beq_iff_eq.mpr c12
    have c12b1 : (t281 != 5000) = false := bne_eq_false_iff_eq.mpr c12
    clear c12
    replace H := Option.bind_eq_some_iff.mp H
    obtain ⟨t286, A130, H⟩ := H
    replace H : (stipendtop_WholeCodes.j0 k l1 a2 (!t286) a0_0 a0_1 a0_2 a0_3 a0_4) = some r := H
    have A13 := AM A130
    clear A130
    have H' := AM H
    clear H
    have hnb14 := NB285_278.out
    have hnc14 := NB278_285.out
    obtain ⟨_, _, _, _, _, _, _, _, _, _⟩ := bX5 BK285.out
    go_wp2_with (first | (go_at_call 10; (with_reducible refine (word_Name.calls k (⟨#[97]⟩ : ByteArray) t286 _ A13.out).mono ?_); rintro e w' ⟨rfl, ⟨nd, rfl⟩⟩))
    go_meet
    case rel => exact ⟨_, (!t286), (by first | rfl | (simp; done) | (simp [*]; done)), H', ⟨by first | omega | exact Nat.le_refl _⟩, ⟨by (with_reducible repeat (first | refine kD ?_ _ | refine k1_ ?_ | refine kA ?_ _)); refine kF ?_ NB278_285.out _; (with_reducible repeat (first | refine kD ?_ _ | refine k1_ ?_ | refine kA ?_ _)); refine kF ?_ NB278_285.out _; (with_reducible repeat (first | refine kD ?_ _ | refine k1_ ?_ | refine kA ?_ _)); refine kF ?_ NB278_285.out _; (with_reducible repeat (first | refine kD ?_ _ | refine k1_ ?_ | refine kA ?_ _)); refine kF ?_ NB278_285.out _; (with_reducible repeat (first | refine kD ?_ _ | refine k1_ ?_ | refine kA ?_ _)); refine kF ?_ NB278_285.out _; (with_reducible repeat (first | refine kD ?_ _ | refine k1_ ?_ | refine kA ?_ _)); exact BK278.out⟩, ⟨by (with_reducible repeat (first | refine kD ?_ _ | refine k1_ ?_ | refine kA ?_ _)); refine kP (cs := #[.int .i64 t279, .int .i64 t280, .int .i64 t281, .int .i64 t282, .bool false]) ?_ 4 _ (by first | rfl | (simp only [u8w]; rfl)); (with_reducible repeat (first | refine kD ?_ _ | refine k1_ ?_ | refine kA ?_ _)); refine kP (cs := #[.int .i64 t279, .int .i64 t280, .int .i64 t281, .int .i64 0, .bool false]) ?_ 3 _ (by first | rfl | (simp only [u8w]; rfl)); (with_reducible repeat (first | refine kD ?_ _ | refine k1_ ?_ | refine kA ?_ _)); refine kP (cs := #[.int .i64 t279, .int .i64 t280, .int .i64 0, .int .i64 0, .bool false]) ?_ 2 _ (by first | rfl | (simp only [u8w]; rfl)); (with_reducible repeat (first | refine kD ?_ _ | refine k1_ ?_ | refine kA ?_ _)); refine kP (cs := #[.int .i64 t279, .int .i64 0, .int .i64 0, .int .i64 0, .bool false]) ?_ 1 _ (by first | rfl | (simp only [u8w]; rfl)); (with_reducible repeat (first | refine kD ?_ _ | refine k1_ ?_ | refine kA ?_ _)); refine kP (cs := #[.int .i64 0, .int .i64 0, .int .i64 0, .int .i64 0, .bool false]) ?_ 0 _ (by first | rfl | (simp only [u8w]; rfl)); (with_reducible repeat (first | refine kD ?_ _ | refine k1_ ?_ | refine kA ?_ _)); exact BK285.out⟩, ⟨by repeat (first | (with_reducible first | exact HB.out | apply bA | apply bD | apply b1 | refine bS ?_ GE278.out | refine bS ?_ GE285.out) | exact HB.out)⟩⟩
  case rest =>
    clear HC5
    (try clear c1); (try clear p2); (try clear c3); (try clear c9); (try clear c11); (try clear c11b0); (try clear c11b1); (try clear c12); (try clear c12b0); (try clear c12b1); (try clear c14); (try clear c16); (try clear hcz10_0); (try clear hcz10_1); (try clear hcz10_2); (try clear hcz10_3); (try clear hcz10_4); (try clear hcz15_0); (try clear hcz15_1); (try clear hcz15_2); (try clear hcz15_3); (try clear hcz15_4); (try clear hcz17_0); (try clear hcz17_1); (try clear hcz17_2); (try clear hcz17_3); (try clear hcz17_4); (try clear hfz10_0); (try clear hfz10_1); (try clear hfz10_2); (try clear hfz10_3); (try clear hfz10_4); (try clear hfz15_0); (try clear hfz15_1); (try clear hfz15_2); (try clear hfz15_3); (try clear hfz15_4); (try clear hfz17_0); (try clear hfz17_1); (try clear hfz17_2); (try clear hfz17_3); (try clear hfz17_4)
    obtain ⟨kq, x37_4, rfl, HA, HJ4, BK278, BK285, HB⟩ := hcut
    cases kq with
    | zero => exact absurd HA.out (by simp [stipendtop_WholeCodes.j0])
    | succ kj4 =>
      have H := HA.out
      clear HA
      simp only [stipendtop_WholeCodes.j0] at H
      by_cases c18 : x37_4 = true
      · subst c18
        have H1 : (some false) = some r := by rw [if_pos rfl] at H; exact H
        clear H
        have H := H1
        clear H1
        exact absurd (Option.some.inj H) (by rw [HRT.out]; decide)
      replace c18 := Bool.eq_false_iff.mpr c18
      subst c18
      have H1 : ((code_Text.f kj4 a0_0 a0_1 a0_2 a0_3 a0_4).bind fun t287 => (if t287.toList = ([] : List UInt8) then (stipendtop_WholeCodes.j1 kj4 l1 a2 t287 true a0_0 a0_1 a0_2 a0_3 a0_4) else (stipendtop_WholeCodes.j1 kj4 l1 a2 t287 (decide ((l1.length : Int) > 20)) a0_0 a0_1 a0_2 a0_3 a0_4))) = some r := by rw [if_neg (show ¬ (false = true) by decide)] at H; exact H
      clear H
      have H := H1
      clear H1
      replace H := Option.bind_eq_some_iff.mp H
      obtain ⟨t287, A190, H⟩ := H
      replace H : (if t287.toList = ([] : List UInt8) then (stipendtop_WholeCodes.j1 kj4 l1 a2 t287 true a0_0 a0_1 a0_2 a0_3 a0_4) else (stipendtop_WholeCodes.j1 kj4 l1 a2 t287 (decide ((l1.length : Int) > 20)) a0_0 a0_1 a0_2 a0_3 a0_4)) = some r := H
      have A19 := AM A190
      clear A190
      have HC20 := AM H
      clear H
      have hnb21 := NB278_285.out
      have hnc21 := NB285_278.out
      obtain ⟨_, _, _, _, _, _, _, _, _, _⟩ := bX5 BK278.out
      go_upto_region 5 with (first | ((with_reducible refine gC (f := 11) rfl ?_); refine gL (some 39) rfl rfl Tryd.func11 (by kernel_rfl) rfl #[.agg #[.int .i64 a0_0, .int .i64 a0_1, .int .i64 a0_2, .int .i64 a0_3, .bool a0_4]] rfl (by (try simp only [List.map_toArray, List.map_cons, List.map_nil]); first | done | rfl | (simp only [List.length_drop, List.length_take]; rfl)) ?_; (with_reducible refine (code_Text.calls kj4 a0_0 a0_1 a0_2 a0_3 a0_4 t287 _ A19.out (tQ htb)).mono ?_); rintro e w23 ⟨rfl, hb⟩; refine ⟨_, rfl, ?_⟩; have n0_ := AM (kB (g := gb278) (o := .cells #[.int .i64 a0_0, .int .i64 a0_1, .int .i64 a0_2, .int .i64 a0_3, .bool a0_4] 23 (0, 0)) (kW BK278) hb); have n1_ := AM (kB (g := gb285) (o := .cells #[.int .i64 t279, .int .i64 t280, .int .i64 t281, .int .i64 t282, .bool t283] 23 (0, 0)) (kW BK285) hb); have n2_ := AM (bT bQ hb); clear BK278; clear BK285; clear HB; have BK278 := n0_; have BK285 := n1_; have HB := n2_; clear n0_ n1_ n2_; (try clear hb); (try clear hb2); (try clear hk); (try clear hi)))
      (try simp only [Act.put, List.setIfInBounds_toArray, List.set_cons_zero, List.set_cons_succ])
      go_cut [46] (fun v46 wc => ∃ (kq : Nat) (x46_19 : Bool), v46 = .bool x46_19 ∧ Aside0 (stipendtop_WholeCodes.j1 kq l1 a2 t287 x46_19 a0_0 a0_1 a0_2 a0_3 a0_4 = some r) ∧ Aside0 (kq ≤ kj4) ∧ Aside0 (wc.heap[gb278]? = some (.cells #[.int .i64 a0_0, .int .i64 a0_1, .int .i64 a0_2, .int .i64 a0_3, .bool a0_4] 23 (0, 0))) ∧ Aside0 (wc.heap[gb285]? = some (.cells #[.int .i64 t279, .int .i64 t280, .int .i64 t281, .int .i64 t282, .bool t283] 23 (0, 0))) ∧ Aside0 (Below w.heap.size w wc))
      case first =>
        have H := HC20.out
        clear HC20
        by_cases c24 : t287.toList = ([] : List UInt8)
        · rw [if_pos c24] at H
          have c24b0 : (t287.toList == ([] : List UInt8)) = true := beq_iff_eq.mpr c24
          have c24b1 : (t287.toList != ([] : List UInt8)) = false := bne_eq_false_iff_eq.mpr c24
          clear c24
          (first | rw [c24b0] | (simp only [i64_w, i32_w]; rw [c24b0]) | skip)
          have H' := AM H
          clear H
          go_wp2
          go_meet
          case rel => exact ⟨_, (true), (by first | rfl | (simp; done) | (simp [*]; done)), H', ⟨by have := HJ4.out; first | omega | exact Nat.le_refl _⟩, ⟨by (with_reducible repeat (first | refine kD ?_ _ | refine k1_ ?_ | refine kA ?_ _)); exact BK278.out⟩, ⟨by (with_reducible repeat (first | refine kD ?_ _ | refine k1_ ?_ | refine kA ?_ _)); exact BK285.out⟩, ⟨by repeat (first | (with_reducible first | exact HB.out | apply bA | apply bD | apply b1 | refine bS ?_ GE278.out | refine bS ?_ GE285.out) | exact HB.out)⟩⟩
        rw [if_neg c24] at H
        have c24b0 : (t287.toList == ([] : List UInt8)) = false := beq_eq_false_iff_ne.mpr c24
        have c24b1 : (t287.toList != ([] : List UInt8)) = true := bne_iff_ne.mpr c24
        (first | rw [c24b0] | (simp only [i64_w, i32_w]; rw [c24b0]) | skip)
        have H' := AM H
        clear H
        go_wp2
        go_meet
        case rel => exact ⟨_, (decide ((l1.length : Int) > 20)), (by first | rfl | (simp; done) | (simp [*]; done)), H', ⟨by have := HJ4.out; first | omega | exact Nat.le_refl _⟩, ⟨by (with_reducible repeat (first | refine kD ?_ _ | refine k1_ ?_ | refine kA ?_ _)); exact BK278.out⟩, ⟨by (with_reducible repeat (first | refine kD ?_ _ | refine k1_ ?_ | refine kA ?_ _)); exact BK285.out⟩, ⟨by repeat (first | (with_reducible first | exact HB.out | apply bA | apply bD | apply b1 | refine bS ?_ GE278.out | refine bS ?_ GE285.out) | exact HB.out)⟩⟩
      case rest =>
        clear HC20
        (try clear c1); (try clear c2); (try clear p2); (try clear c3); (try clear c9); (try clear c11); (try clear c11b0); (try clear c11b1); (try clear c12); (try clear c12b0); (try clear c12b1); (try clear c14); (try clear c16); (try clear c18); (try clear c21); (try clear c24); (try clear c24b0); (try clear c24b1); (try clear hcz10_0); (try clear hcz10_1); (try clear hcz10_2); (try clear hcz10_3); (try clear hcz10_4); (try clear hcz15_0); (try clear hcz15_1); (try clear hcz15_2); (try clear hcz15_3); (try clear hcz15_4); (try clear hcz17_0); (try clear hcz17_1); (try clear hcz17_2); (try clear hcz17_3); (try clear hcz17_4); (try clear hcz22_0); (try clear hcz22_1); (try clear hcz22_2); (try clear hcz22_3); (try clear hcz22_4); (try clear hfz10_0); (try clear hfz10_1); (try clear hfz10_2); (try clear hfz10_3); (try clear hfz10_4); (try clear hfz15_0); (try clear hfz15_1); (try clear hfz15_2); (try clear hfz15_3); (try clear hfz15_4); (try clear hfz17_0); (try clear hfz17_1); (try clear hfz17_2); (try clear hfz17_3); (try clear hfz17_4); (try clear hfz22_0); (try clear hfz22_1); (try clear hfz22_2); (try clear hfz22_3); (try clear hfz22_4); (try clear p2)
        obtain ⟨kq, x46_19, rfl, HA, HJ19, BK278, BK285, HB⟩ := hcut
        cases kq with
        | zero => exact absurd HA.out (by simp [stipendtop_WholeCodes.j1])
        | succ kj19 =>
          have H := HA.out
          clear HA
          simp only [stipendtop_WholeCodes.j1] at H
          by_cases c25 : x46_19 = true
          · subst c25
            have H1 : ((code_Check.f kj19 a0_0 a0_1 a0_2 a0_3 a0_4).bind fun t288 => (if t288 = 0 then (some (decide ((l1.length : Int) > 20))) else (some true))) = some r := by rw [if_pos rfl] at H; exact H
            clear H
            have H := H1
            clear H1
            replace H := Option.bind_eq_some_iff.mp H
            obtain ⟨t288, A260, H⟩ := H
            replace H : (if t288 = 0 then (some (decide ((l1.length : Int) > 20))) else (some true)) = some r := H
            have A26 := AM A260
            clear A260
            by_cases c27 : t288 = 0
            rotate_left
            · rw [if_neg c27] at H
              have c27b0 : (t288 == 0) = false := beq_eq_false_iff_ne.mpr c27
              have c27b1 : (t288 != 0) = true := bne_iff_ne.mpr c27
              obtain rfl := Option.some.inj H
              have hnb31 := NB278_285.out
              have hnc31 := NB285_278.out
              obtain ⟨_, _, _, _, _, _, _, _, _, _⟩ := bX5 BK278.out
              go_wp2_with (first | ((with_reducible refine gC (f := 12) rfl ?_); refine gL (some 48) rfl rfl Tryd.func12 (by kernel_rfl) rfl #[.agg #[.int .i64 a0_0, .int .i64 a0_1, .int .i64 a0_2, .int .i64 a0_3, .bool a0_4]] rfl (by (try simp only [List.map_toArray, List.map_cons, List.map_nil]); first | done | rfl | (simp only [List.length_drop, List.length_take]; rfl)) ?_; (with_reducible refine (code_Check.calls kj19 a0_0 a0_1 a0_2 a0_3 a0_4 t288 _ A26.out).mono ?_); rintro e w33 ⟨rfl, hb⟩; refine ⟨_, rfl, ?_⟩; have n0_ := AM (kB (g := gb278) (o := .cells #[.int .i64 a0_0, .int .i64 a0_1, .int .i64 a0_2, .int .i64 a0_3, .bool a0_4] 23 (0, 0)) (kW BK278) hb); have n1_ := AM (kB (g := gb285) (o := .cells #[.int .i64 t279, .int .i64 t280, .int .i64 t281, .int .i64 t282, .bool t283] 23 (0, 0)) (kW BK285) hb); have n2_ := AM (bT bQ hb); clear BK278; clear BK285; clear HB; have BK278 := n0_; have BK285 := n1_; have HB := n2_; clear n0_ n1_ n2_; (try clear hb); (try clear hb2); (try clear hk); (try clear hi)))
              go_ret
              exact ⟨by first | rfl | (simp [errW_none, errW_some] <;> rfl) | (simp [*, errW_none, errW_some] <;> rfl), by repeat (first | (with_reducible first | exact HB.out | apply bA | apply bD | apply b1 | refine bS ?_ GE278.out | refine bS ?_ GE285.out) | exact HB.out)⟩
            rw [if_pos c27] at H
            have c27b0 : (t288 == 0) = true := beq_iff_eq.mpr c27
            have c27b1 : (t288 != 0) = false := bne_eq_false_iff_eq.mpr c27
            clear c27
            obtain rfl := Option.some.inj H
            have hnb28 := NB278_285.out
            have hnc28 := NB285_278.out
            obtain ⟨_, _, _, _, _, _, _, _, _, _⟩ := bX5 BK278.out
            go_wp2_with (first | ((with_reducible refine gC (f := 12) rfl ?_); refine gL (some 48) rfl rfl Tryd.func12 (by kernel_rfl) rfl #[.agg #[.int .i64 a0_0, .int .i64 a0_1, .int .i64 a0_2, .int .i64 a0_3, .bool a0_4]] rfl (by (try simp only [List.map_toArray, List.map_cons, List.map_nil]); first | done | rfl | (simp only [List.length_drop, List.length_take]; rfl)) ?_; (with_reducible refine (code_Check.calls kj19 a0_0 a0_1 a0_2 a0_3 a0_4 t288 _ A26.out).mono ?_); rintro e w30 ⟨rfl, hb⟩; refine ⟨_, rfl, ?_⟩; have n0_ := AM (kB (g := gb278) (o := .cells #[.int .i64 a0_0, .int .i64 a0_1, .int .i64 a0_2, .int .i64 a0_3, .bool a0_4] 23 (0, 0)) (kW BK278) hb); have n1_ := AM (kB (g := gb285) (o := .cells #[.int .i64 t279, .int .i64 t280, .int .i64 t281, .int .i64 t282, .bool t283] 23 (0, 0)) (kW BK285) hb); have n2_ := AM (bT bQ hb); clear BK278; clear BK285; clear HB; have BK278 := n0_; have BK285 := n1_; have HB := n2_; clear n0_ n1_ n2_; (try clear hb); (try clear hb2); (try clear hk); (try clear hi)))
            go_ret
            exact ⟨by first | rfl | (simp [errW_none, errW_some] <;> rfl) | (simp [*, errW_none, errW_some] <;> rfl), by repeat (first | (with_reducible first | exact HB.out | apply bA | apply bD | apply b1 | refine bS ?_ GE278.out | refine bS ?_ GE285.out) | exact HB.out)⟩
          replace c25 := Bool.eq_false_iff.mpr c25
          subst c25
          have H1 : (stipendtop_WholeCodes.l0 kj19 l1 a2 t287 (t287.size : Int) l1 (l1.length : Int) 0 a0_0 a0_1 a0_2 a0_3 a0_4) = some r := by rw [if_neg (show ¬ (false = true) by decide)] at H; exact H
          clear H
          have H := H1
          clear H1
          have H' := AM H
          clear H
          go_wp2
          go_loopg [10, 59] kj19 (fun kq v10 v59 w' => ∃ (x10_3 : Int) (x59_3 : Int), v10 = .int .i64 x10_3 ∧ v59 = .int .i64 x59_3 ∧ Aside0 (stipendtop_WholeCodes.l0 kq l1 a2 t287 x10_3 l1 (l1.length : Int) x59_3 a0_0 a0_1 a0_2 a0_3 a0_4 = some r) ∧ Aside0 (kq ≤ kj19) ∧ Aside0 (w'.heap[gb278]? = some (.cells #[.int .i64 a0_0, .int .i64 a0_1, .int .i64 a0_2, .int .i64 a0_3, .bool a0_4] 23 (0, 0))) ∧ Aside0 (w'.heap[gb285]? = some (.cells #[.int .i64 t279, .int .i64 t280, .int .i64 t281, .int .i64 t282, .bool t283] 23 (0, 0))) ∧ Aside0 (Below w.heap.size w w'))
          case atStart => exact ⟨((t287.size : Int)), (0), (by first | rfl | (simp; done) | (simp [*]; done)), (by first | rfl | (simp; done) | (simp [*]; done)), H', ⟨Nat.le_refl _⟩, ⟨by (with_reducible repeat (first | refine kD ?_ _ | refine k1_ ?_ | refine kA ?_ _)); exact BK278.out⟩, ⟨by (with_reducible repeat (first | refine kD ?_ _ | refine k1_ ?_ | refine kA ?_ _)); exact BK285.out⟩, ⟨by repeat (first | (with_reducible first | exact HB.out | apply bA | apply bD | apply b1 | refine bS ?_ GE278.out | refine bS ?_ GE285.out) | exact HB.out)⟩⟩
          case round =>
            clear H'
            (try clear c1); (try clear c2); (try clear p2); (try clear c3); (try clear c9); (try clear c11); (try clear c11b0); (try clear c11b1); (try clear c12); (try clear c12b0); (try clear c12b1); (try clear c14); (try clear c16); (try clear c18); (try clear c21); (try clear c24); (try clear c24b0); (try clear c24b1); (try clear c25); (try clear c27); (try clear c27b0); (try clear c27b1); (try clear c28); (try clear c31); (try clear hcz10_0); (try clear hcz10_1); (try clear hcz10_2); (try clear hcz10_3); (try clear hcz10_4); (try clear hcz15_0); (try clear hcz15_1); (try clear hcz15_2); (try clear hcz15_3); (try clear hcz15_4); (try clear hcz17_0); (try clear hcz17_1); (try clear hcz17_2); (try clear hcz17_3); (try clear hcz17_4); (try clear hcz22_0); (try clear hcz22_1); (try clear hcz22_2); (try clear hcz22_3); (try clear hcz22_4); (try clear hcz29_0); (try clear hcz29_1); (try clear hcz29_2); (try clear hcz29_3); (try clear hcz29_4); (try clear hcz32_0); (try clear hcz32_1); (try clear hcz32_2); (try clear hcz32_3); (try clear hcz32_4); (try clear hfz10_0); (try clear hfz10_1); (try clear hfz10_2); (try clear hfz10_3); (try clear hfz10_4); (try clear hfz15_0); (try clear hfz15_1); (try clear hfz15_2); (try clear hfz15_3); (try clear hfz15_4); (try clear hfz17_0); (try clear hfz17_1); (try clear hfz17_2); (try clear hfz17_3); (try clear hfz17_4); (try clear hfz22_0); (try clear hfz22_1); (try clear hfz22_2); (try clear hfz22_3); (try clear hfz22_4); (try clear hfz29_0); (try clear hfz29_1); (try clear hfz29_2); (try clear hfz29_3); (try clear hfz29_4); (try clear hfz32_0); (try clear hfz32_1); (try clear hfz32_2); (try clear hfz32_3); (try clear hfz32_4); (try clear p2)
            obtain ⟨x10_3, x59_3, rfl, rfl, HA, HK3, BK278, BK285, HB⟩ := hrel
            cases gk with
            | zero => exact absurd HA.out (by simp [stipendtop_WholeCodes.l0])
            | succ k3 =>
              have H := HA.out
              clear HA
              simp only [stipendtop_WholeCodes.l0] at H
              by_cases c34 : x59_3 < (l1.length : Int)
              · rw [if_pos c34] at H
                have c34b0 := decide_eq_true c34
                clear c34
                by_cases c35 : 0 ≤ x59_3
                rotate_left
                · rw [if_neg c35] at H
                  exact absurd H (by simp)
                rw [if_pos c35] at H
                have c35b0 := decide_eq_true c35
                clear c35
                by_cases c36 : x59_3 < (l1.length : Int)
                rotate_left
                · rw [if_neg c36] at H
                  exact absurd H (by simp)
                rw [if_pos c36] at H
                have c36b0 := decide_eq_true c36
                clear c36
                by_cases c37 : ((rdOf ByteArray.empty l1 x59_3).size : Int) > 400
                · rw [if_pos c37] at H
                  have c37b0 : decide (400 < ((rdOf ByteArray.empty l1 x59_3).size : Int)) = true := decide_eq_true c37
                  have c37b1 : decide (400 < (rdOf ByteArray.empty l1 x59_3).size) = true := decide_eq_true (by omega)
                  clear c37
                  obtain rfl := Option.some.inj H
                  have p289 : 0 ≤ (x59_3 : Int) := of_decide_eq_true (by first | (with_reducible assumption) | assumption)
                  have q289 : x59_3 < (l1.length : Int) := of_decide_eq_true (by first | (with_reducible assumption) | assumption)
                  obtain ⟨ad289, e289, hx289_0⟩ := Kd.at_string HR1.out x59_3 p289 q289
                  cases e289
                  replace hx289_0 := (HB.out.cell (bL w _ hx289_0)).trans hx289_0
                  replace p289 := eq_true p289
                  replace q289 := eq_true q289
                  go_wp2
                  go_ret
                  exact ⟨by first | rfl | (simp [errW_none, errW_some] <;> rfl) | (simp [*, errW_none, errW_some] <;> rfl), by repeat (first | (with_reducible first | exact HB.out | apply bA | apply bD | apply b1 | refine bS ?_ GE278.out | refine bS ?_ GE285.out) | exact HB.out)⟩
                rw [if_neg c37] at H
                have c37b0 : decide (400 < ((rdOf ByteArray.empty l1 x59_3).size : Int)) = false := decide_eq_false c37
                have c37b1 : decide (400 < (rdOf ByteArray.empty l1 x59_3).size) = false := decide_eq_false (by omega)
                clear c37
                by_cases c38 : (wrap64 (x10_3 + (wrap64 (((rdOf ByteArray.empty l1 x59_3).size : Int) + 3)))) > 500
                · rw [if_pos c38] at H
                  have c38b0 : decide (500 < (wrap64 (x10_3 + (wrap64 (((rdOf ByteArray.empty l1 x59_3).size : Int) + 3))))) = true := decide_eq_true c38
                  clear c38
                  obtain rfl := Option.some.inj H
                  have p289 : 0 ≤ (x59_3 : Int) := of_decide_eq_true (by first | (with_reducible assumption) | assumption)
                  have q289 : x59_3 < (l1.length : Int) := of_decide_eq_true (by first | (with_reducible assumption) | assumption)
                  obtain ⟨ad289, e289, hx289_0⟩ := Kd.at_string HR1.out x59_3 p289 q289
                  cases e289
                  replace hx289_0 := (HB.out.cell (bL w _ hx289_0)).trans hx289_0
                  replace p289 := eq_true p289
                  replace q289 := eq_true q289
                  go_wp2
                  go_ret
                  exact ⟨by first | rfl | (simp [errW_none, errW_some] <;> rfl) | (simp [*, errW_none, errW_some] <;> rfl), by repeat (first | (with_reducible first | exact HB.out | apply bA | apply bD | apply b1 | refine bS ?_ GE278.out | refine bS ?_ GE285.out) | exact HB.out)⟩
                rw [if_neg c38] at H
                have c38b0 : decide (500 < (wrap64 (x10_3 + (wrap64 (((rdOf ByteArray.empty l1 x59_3).size : Int) + 3))))) = false := decide_eq_false c38
                clear c38
                have H' := AM H
                clear H
                have p289 : 0 ≤ (x59_3 : Int) := of_decide_eq_true (by first | (with_reducible assumption) | assumption)
                have q289 : x59_3 < (l1.length : Int) := of_decide_eq_true (by first | (with_reducible assumption) | assumption)
                obtain ⟨ad289, e289, hx289_0⟩ := Kd.at_string HR1.out x59_3 p289 q289
                cases e289
                replace hx289_0 := (HB.out.cell (bL w _ hx289_0)).trans hx289_0
                replace p289 := eq_true p289
                replace q289 := eq_true q289
                go_wp2
                go_roundg k3
                case measure => have := HJ4.out; have := HJ19.out; have := HK3.out; omega
                case rel => exact ⟨(wrap64 (x10_3 + (wrap64 (((rdOf ByteArray.empty l1 x59_3).size : Int) + 3)))), (wrap64 (x59_3 + 1)), (by first | rfl | (simp; done) | (simp [*]; done)), (by first | rfl | (simp; done) | (simp [*]; done)), H', ⟨by have := HJ4.out; have := HJ19.out; have := HK3.out; omega⟩, ⟨by (with_reducible repeat (first | refine kD ?_ _ | refine k1_ ?_ | refine kA ?_ _)); exact BK278.out⟩, ⟨by (with_reducible repeat (first | refine kD ?_ _ | refine k1_ ?_ | refine kA ?_ _)); exact BK285.out⟩, ⟨by repeat (first | (with_reducible first | exact HB.out | apply bA | apply bD | apply b1 | refine bS ?_ GE278.out | refine bS ?_ GE285.out) | exact HB.out)⟩⟩
              rw [if_neg c34] at H
              have c34b0 := decide_eq_false c34
              clear c34
              obtain ⟨y290, hy290⟩ : ∃ y_ : List ByteArray, y_ = (([] : List ByteArray)) := ⟨_, rfl⟩
              replace H : (if y290.length + l1.length < 8796093022208 then ((some (y290 ++ l1 : List ByteArray)).bind fun y293 => (if y293.length < 8796093022208 then ((word_Join.f (y293 ++ [t287])).bind fun bt299 => (if bt299.2 = 0 then ((word_Cut.f bt299.1).bind fun bt301 => (if bt301.2 = 0 then (stipendtop_WholeCodes.j3 k3 l1 a2 bt301.1 ((bt301.1.length : Int) != (wrap64 ((l1.length : Int) + 1))) a0_0 a0_1 a0_2 a0_3 a0_4) else (stipendtop_WholeCodes.j3 k3 l1 a2 bt301.1 true a0_0 a0_1 a0_2 a0_3 a0_4))) else (some (bt299.2 == 5)))) else (none))) else (none)) = some r := by first | (rw [hy290]; with_reducible exact H) | (have H2_ := (Option.bind_some _ _).symm.trans H; rw [hy290]; with_reducible exact H2_) | (have H2_ := (Option.bind_some _ _).symm.trans H; with_reducible exact H2_) | with_reducible exact H | (rw [hy290]; exact H) | exact H
              have Ny290 := AM hy290
              clear hy290
              by_cases c39 : y290.length + l1.length < 8796093022208
              rotate_left
              · rw [if_neg c39] at H
                exact absurd H (by simp)

              rw [if_pos c39] at H
              have LMc39 := AM c39
              clear c39
              obtain ⟨y293, hy293⟩ : ∃ y_ : List ByteArray, y_ = (y290 ++ l1) := ⟨_, rfl⟩
              replace H : (if y293.length < 8796093022208 then ((word_Join.f (y293 ++ [t287])).bind fun bt299 => (if bt299.2 = 0 then ((word_Cut.f bt299.1).bind fun bt301 => (if bt301.2 = 0 then (stipendtop_WholeCodes.j3 k3 l1 a2 bt301.1 ((bt301.1.length : Int) != (wrap64 ((l1.length : Int) + 1))) a0_0 a0_1 a0_2 a0_3 a0_4) else (stipendtop_WholeCodes.j3 k3 l1 a2 bt301.1 true a0_0 a0_1 a0_2 a0_3 a0_4))) else (some (bt299.2 == 5)))) else (none)) = some r := by first | (rw [hy293]; with_reducible exact H) | (have H2_ := (Option.bind_some _ _).symm.trans H; rw [hy293]; with_reducible exact H2_) | (have H2_ := (Option.bind_some _ _).symm.trans H; with_reducible exact H2_) | with_reducible exact H | (rw [hy293]; exact H) | exact H
              have Ny293 := AM hy293
              clear hy293
              by_cases c40 : y293.length < 8796093022208
              rotate_left
              · rw [if_neg c40] at H
                exact absurd H (by simp)
              rw [if_pos c40] at H
              have LMc40 := AM c40
              clear c40
              obtain ⟨y296, hy296⟩ : ∃ y_ : List ByteArray, y_ = (y293 ++ [t287]) := ⟨_, rfl⟩
              replace H : ((word_Join.f y296).bind fun bt299 => (if bt299.2 = 0 then ((word_Cut.f bt299.1).bind fun bt301 => (if bt301.2 = 0 then (stipendtop_WholeCodes.j3 k3 l1 a2 bt301.1 ((bt301.1.length : Int) != (wrap64 ((l1.length : Int) + 1))) a0_0 a0_1 a0_2 a0_3 a0_4) else (stipendtop_WholeCodes.j3 k3 l1 a2 bt301.1 true a0_0 a0_1 a0_2 a0_3 a0_4))) else (some (bt299.2 == 5)))) = some r := by first | (rw [hy296]; with_reducible exact H) | (have H2_ := (Option.bind_some _ _).symm.trans H; rw [hy296]; with_reducible exact H2_) | (have H2_ := (Option.bind_some _ _).symm.trans H; with_reducible exact H2_) | with_reducible exact H | (rw [hy296]; exact H) | exact H
              have Ny296 := AM hy296
              clear hy296
              replace H := Option.bind_eq_some_iff.mp H
              obtain ⟨⟨t299, t300⟩, A410, H⟩ := H
              replace H : (if t300 = 0 then ((word_Cut.f t299).bind fun bt301 => (if bt301.2 = 0 then (stipendtop_WholeCodes.j3 k3 l1 a2 bt301.1 ((bt301.1.length : Int) != (wrap64 ((l1.length : Int) + 1))) a0_0 a0_1 a0_2 a0_3 a0_4) else (stipendtop_WholeCodes.j3 k3 l1 a2 bt301.1 true a0_0 a0_1 a0_2 a0_3 a0_4))) else (some (t300 == 5))) = some r := H
              have A41 := AM A410
              clear A410
              by_cases c42 : t300 = 0
              rotate_left
              · rw [if_neg c42] at H
                have c42b0 : (t300 == 0) = false := beq_eq_false_iff_ne.mpr c42
                have c42b1 : (t300 != 0) = true := bne_iff_ne.mpr c42
                obtain rfl := Option.some.inj H
                go_wp2_with (first | ((with_reducible refine gD (N := 77) rfl ?_); (try (refine gG (by rfl) ?_; dsimp only)); refine Kd.R_lit Kd.string _ 9 ?hg (N := 77) ?hd (xs := ([] : List ByteArray)) (inner := []) (ok := fun _ => True) (okp := fun _ => True) ?hr ?hp (fun _ hk => hk) trivial (Below.refl _ _) (Nat.le_refl _) (by simp) ?_; (case hd => rfl); (case hg => rfl); (case hr => first | (go_simp; done) | (go_simp; rfl)); (case hp => exact (Reps.none _ _)); intro v291 w101 ho102 hb hg_ hnew_; clear hg_ hnew_; (first | rw [← Ny290.out] at ho102 | (simp only [Int.reduceToNat] at ho102; rw [← Ny290.out] at ho102)); have n0_ := AM (Kd.R_lower ho102 (bZ bQ)); have n1_ := AM (kB (g := gb278) (o := .cells #[.int .i64 a0_0, .int .i64 a0_1, .int .i64 a0_2, .int .i64 a0_3, .bool a0_4] 23 (0, 0)) (kW BK278) hb); have n2_ := AM (kB (g := gb285) (o := .cells #[.int .i64 t279, .int .i64 t280, .int .i64 t281, .int .i64 t282, .bool t283] 23 (0, 0)) (kW BK285) hb); have n3_ := AM (bT bQ hb); clear BK278; clear BK285; clear HB; have HO292 := n0_; have BK278 := n1_; have BK285 := n2_; have HB := n3_; clear n0_ n1_ n2_ n3_; clear hb ho102) | ((with_reducible refine gate_builtin (b := .append) (xs := #[.tmp 77, .tmp 78]) rfl ?_); (try (refine gG (by rfl) ?_; dsimp only)); at_builtin; refine Kd.R_append_rows Kd.string (w0 := w) w.heap.size rfl (.tmp 77) (.tmp 78) 24 9 (.string ⟨#[]⟩) 16 rfl Tryd.underlying24 info9 rfl (by decide) (by omega) v291 y290 l1 _ _ _ (fun _ => True) (fun _ => False) rfl rfl ?aO ?aR (fun _ _ h => h) (fun _ h => h.elim) ?aF ?aB ?aS ?aL ?_; (case aR => repeat (first | exact (cB HR1.out HB.out) | (with_reducible refine cA ?_ _) | (with_reducible refine cD ?_ _) | (with_reducible refine c1_ ?_))); (case aB => exact bQ); (case aF => exact (fun _ _ => trivial)); (case aO => exact (by (with_reducible repeat (first | apply rA | apply rD | apply r1x)); exact HO292.out)); (case aS => exact (bZ bQ)); (case aL => have := LMc39.out; omega); intro v294 w103 ho hb hg hat; rw [← Ny293.out] at ho; have n0_ := AM (blk_grown (g := gb278) (o := .cells #[.int .i64 a0_0, .int .i64 a0_1, .int .i64 a0_2, .int .i64 a0_3, .bool a0_4] 23 (0, 0)) (kW BK278) hg (Kd.R_ne HO292.out BK278.out (by decide))); have n1_ := AM (blk_grown (g := gb285) (o := .cells #[.int .i64 t279, .int .i64 t280, .int .i64 t281, .int .i64 t282, .bool t283] 23 (0, 0)) (kW BK285) hg (Kd.R_ne HO292.out BK285.out (by decide))); have n2_ := AM (hb); have n3_ := AM (ho); clear BK278; clear BK285; clear HB; clear HO292; have BK278 := n0_; have BK285 := n1_; have HB := n2_; have HO295 := n3_; clear n0_ n1_ n2_ n3_; clear ho hb hg hat) | ((with_reducible refine gate_builtin (b := .append) (xs := #[.tmp 79, .tmp 81]) rfl ?_); (try (refine gG (by rfl) ?_; dsimp only)); at_builtin; refine Kd.R_append Kd.string (w0 := w) w.heap.size rfl (.tmp 79) (.tmp 81) 24 9 (.string ⟨#[]⟩) 16 rfl Tryd.underlying24 info9 rfl (by decide) (by omega) v294 y293 t287 [.string t287] (fun _ => True) (fun _ => False) rfl rfl ?aP (fun _ hk => hk.elim) ?aF ?aO ?aB ?aS ?aL ?_; (case aP => exact rfl); (case aB => exact bQ); (case aF => exact (fun _ _ => trivial)); (case aO => exact (by (with_reducible repeat (first | apply rA | apply rD | apply r1x)); exact HO295.out)); (case aS => exact (bZ bQ)); (case aL => have := LMc40.out; omega); intro v297 w104 ho hb hg hat; rw [← Ny296.out] at ho; have n0_ := AM (blk_grown (g := gb278) (o := .cells #[.int .i64 a0_0, .int .i64 a0_1, .int .i64 a0_2, .int .i64 a0_3, .bool a0_4] 23 (0, 0)) (kW BK278) hg (Kd.R_ne HO295.out BK278.out (by decide))); have n1_ := AM (blk_grown (g := gb285) (o := .cells #[.int .i64 t279, .int .i64 t280, .int .i64 t281, .int .i64 t282, .bool t283] 23 (0, 0)) (kW BK285) hg (Kd.R_ne HO295.out BK285.out (by decide))); have n2_ := AM (hb); have n3_ := AM (ho); clear BK278; clear BK285; clear HB; clear HO295; have BK278 := n0_; have BK285 := n1_; have HB := n2_; have HO298 := n3_; clear n0_ n1_ n2_ n3_; clear ho hb hg hat; obtain ⟨Ao105, co105, eo105⟩ := Kd.R_slice HO298.out; subst eo105) | ((with_reducible refine gC (f := 13) rfl ?_); refine gL (some 83) rfl rfl Tryd.func13 (by kernel_rfl) rfl #[.slice Ao105 y296.length co105] rfl (by (try simp only [List.map_toArray, List.map_cons, List.map_nil]); first | done | rfl | (simp only [List.length_drop, List.length_take]; rfl)) ?_; (with_reducible refine (word_Join.calls _ _ y296 t299 t300 _ ?side1 ?side2 A41.out).mono ?_); (case side1 => repeat (first | exact (Kd.R_reads' HO298.out).2.2 | (with_reducible refine cA ?_ _) | (with_reducible refine cD ?_ _) | (with_reducible refine c1_ ?_))); (case side2 => exact (Kd.R_reads' HO298.out).2.1); rintro e w106 ⟨rfl, hb⟩; refine ⟨_, rfl, ?_⟩; have n0_ := AM (Kd.R_below (by (with_reducible repeat (first | apply rA | apply rD | apply r1x)); exact HO298.out) hb); have n1_ := AM (kB (g := gb278) (o := .cells #[.int .i64 a0_0, .int .i64 a0_1, .int .i64 a0_2, .int .i64 a0_3, .bool a0_4] 23 (0, 0)) (kW BK278) hb); have n2_ := AM (kB (g := gb285) (o := .cells #[.int .i64 t279, .int .i64 t280, .int .i64 t281, .int .i64 t282, .bool t283] 23 (0, 0)) (kW BK285) hb); have n3_ := AM (bT bQ hb); clear HO298; clear BK278; clear BK285; clear HB; have HO298 := n0_; have BK278 := n1_; have BK285 := n2_; have HB := n3_; clear n0_ n1_ n2_ n3_; (try clear hb); (try clear hb2); (try clear hk); (try clear hi)))
                go_ret
                exact ⟨by first | rfl | (simp [errW_none, errW_some] <;> rfl) | (simp [*, errW_none, errW_some] <;> rfl), by repeat (first | (with_reducible first | exact HB.out | apply bA | apply bD | apply b1 | refine bS ?_ GE278.out | refine bS ?_ GE285.out) | exact HB.out)⟩
              rw [if_pos c42] at H
              have c42b0 : (t300 == 0) = true := beq_iff_eq.mpr c42
              have c42b1 : (t300 != 0) = false := bne_eq_false_iff_eq.mpr c42
              clear c42
              replace H := Option.bind_eq_some_iff.mp H
              obtain ⟨⟨t301, t302⟩, A430, H⟩ := H
              replace H : (if t302 = 0 then (stipendtop_WholeCodes.j3 k3 l1 a2 t301 ((t301.length : Int) != (wrap64 ((l1.length : Int) + 1))) a0_0 a0_1 a0_2 a0_3 a0_4) else (stipendtop_WholeCodes.j3 k3 l1 a2 t301 true a0_0 a0_1 a0_2 a0_3 a0_4)) = some r := H
              have A43 := AM A430
              clear A430
              have HC44 := AM H
              clear H
              go_upto_region 19 with (first | ((with_reducible refine gD (N := 77) rfl ?_); (try (refine gG (by rfl) ?_; dsimp only)); refine Kd.R_lit Kd.string _ 9 ?hg (N := 77) ?hd (xs := ([] : List ByteArray)) (inner := []) (ok := fun _ => True) (okp := fun _ => True) ?hr ?hp (fun _ hk => hk) trivial (Below.refl _ _) (Nat.le_refl _) (by simp) ?_; (case hd => rfl); (case hg => rfl); (case hr => first | (go_simp; done) | (go_simp; rfl)); (case hp => exact (Reps.none _ _)); intro v291 w45 ho46 hb hg_ hnew_; clear hg_ hnew_; (first | rw [← Ny290.out] at ho46 | (simp only [Int.reduceToNat] at ho46; rw [← Ny290.out] at ho46)); have n0_ := AM (Kd.R_lower ho46 (bZ bQ)); have n1_ := AM (kB (g := gb278) (o := .cells #[.int .i64 a0_0, .int .i64 a0_1, .int .i64 a0_2, .int .i64 a0_3, .bool a0_4] 23 (0, 0)) (kW BK278) hb); have n2_ := AM (kB (g := gb285) (o := .cells #[.int .i64 t279, .int .i64 t280, .int .i64 t281, .int .i64 t282, .bool t283] 23 (0, 0)) (kW BK285) hb); have n3_ := AM (bT bQ hb); clear BK278; clear BK285; clear HB; have HO292 := n0_; have BK278 := n1_; have BK285 := n2_; have HB := n3_; clear n0_ n1_ n2_ n3_; clear hb ho46) | ((with_reducible refine gate_builtin (b := .append) (xs := #[.tmp 77, .tmp 78]) rfl ?_); (try (refine gG (by rfl) ?_; dsimp only)); at_builtin; refine Kd.R_append_rows Kd.string (w0 := w) w.heap.size rfl (.tmp 77) (.tmp 78) 24 9 (.string ⟨#[]⟩) 16 rfl Tryd.underlying24 info9 rfl (by decide) (by omega) v291 y290 l1 _ _ _ (fun _ => True) (fun _ => False) rfl rfl ?aO ?aR (fun _ _ h => h) (fun _ h => h.elim) ?aF ?aB ?aS ?aL ?_; (case aR => repeat (first | exact (cB HR1.out HB.out) | (with_reducible refine cA ?_ _) | (with_reducible refine cD ?_ _) | (with_reducible refine c1_ ?_))); (case aB => exact bQ); (case aF => exact (fun _ _ => trivial)); (case aO => exact (by (with_reducible repeat (first | apply rA | apply rD | apply r1x)); exact HO292.out)); (case aS => exact (bZ bQ)); (case aL => have := LMc39.out; omega); intro v294 w47 ho hb hg hat; rw [← Ny293.out] at ho; have n0_ := AM (blk_grown (g := gb278) (o := .cells #[.int .i64 a0_0, .int .i64 a0_1, .int .i64 a0_2, .int .i64 a0_3, .bool a0_4] 23 (0, 0)) (kW BK278) hg (Kd.R_ne HO292.out BK278.out (by decide))); have n1_ := AM (blk_grown (g := gb285) (o := .cells #[.int .i64 t279, .int .i64 t280, .int .i64 t281, .int .i64 t282, .bool t283] 23 (0, 0)) (kW BK285) hg (Kd.R_ne HO292.out BK285.out (by decide))); have n2_ := AM (hb); have n3_ := AM (ho); clear BK278; clear BK285; clear HB; clear HO292; have BK278 := n0_; have BK285 := n1_; have HB := n2_; have HO295 := n3_; clear n0_ n1_ n2_ n3_; clear ho hb hg hat) | ((with_reducible refine gate_builtin (b := .append) (xs := #[.tmp 79, .tmp 81]) rfl ?_); (try (refine gG (by rfl) ?_; dsimp only)); at_builtin; refine Kd.R_append Kd.string (w0 := w) w.heap.size rfl (.tmp 79) (.tmp 81) 24 9 (.string ⟨#[]⟩) 16 rfl Tryd.underlying24 info9 rfl (by decide) (by omega) v294 y293 t287 [.string t287] (fun _ => True) (fun _ => False) rfl rfl ?aP (fun _ hk => hk.elim) ?aF ?aO ?aB ?aS ?aL ?_; (case aP => exact rfl); (case aB => exact bQ); (case aF => exact (fun _ _ => trivial)); (case aO => exact (by (with_reducible repeat (first | apply rA | apply rD | apply r1x)); exact HO295.out)); (case aS => exact (bZ bQ)); (case aL => have := LMc40.out; omega); intro v297 w48 ho hb hg hat; rw [← Ny296.out] at ho; have n0_ := AM (blk_grown (g := gb278) (o := .cells #[.int .i64 a0_0, .int .i64 a0_1, .int .i64 a0_2, .int .i64 a0_3, .bool a0_4] 23 (0, 0)) (kW BK278) hg (Kd.R_ne HO295.out BK278.out (by decide))); have n1_ := AM (blk_grown (g := gb285) (o := .cells #[.int .i64 t279, .int .i64 t280, .int .i64 t281, .int .i64 t282, .bool t283] 23 (0, 0)) (kW BK285) hg (Kd.R_ne HO295.out BK285.out (by decide))); have n2_ := AM (hb); have n3_ := AM (ho); clear BK278; clear BK285; clear HB; clear HO295; have BK278 := n0_; have BK285 := n1_; have HB := n2_; have HO298 := n3_; clear n0_ n1_ n2_ n3_; clear ho hb hg hat; obtain ⟨Ao49, co49, eo49⟩ := Kd.R_slice HO298.out; subst eo49) | ((with_reducible refine gC (f := 13) rfl ?_); refine gL (some 83) rfl rfl Tryd.func13 (by kernel_rfl) rfl #[.slice Ao49 y296.length co49] rfl (by (try simp only [List.map_toArray, List.map_cons, List.map_nil]); first | done | rfl | (simp only [List.length_drop, List.length_take]; rfl)) ?_; (with_reducible refine (word_Join.calls _ _ y296 t299 t300 _ ?side1 ?side2 A41.out).mono ?_); (case side1 => repeat (first | exact (Kd.R_reads' HO298.out).2.2 | (with_reducible refine cA ?_ _) | (with_reducible refine cD ?_ _) | (with_reducible refine c1_ ?_))); (case side2 => exact (Kd.R_reads' HO298.out).2.1); rintro e w50 ⟨rfl, hb⟩; refine ⟨_, rfl, ?_⟩; have n0_ := AM (Kd.R_below (by (with_reducible repeat (first | apply rA | apply rD | apply r1x)); exact HO298.out) hb); have n1_ := AM (kB (g := gb278) (o := .cells #[.int .i64 a0_0, .int .i64 a0_1, .int .i64 a0_2, .int .i64 a0_3, .bool a0_4] 23 (0, 0)) (kW BK278) hb); have n2_ := AM (kB (g := gb285) (o := .cells #[.int .i64 t279, .int .i64 t280, .int .i64 t281, .int .i64 t282, .bool t283] 23 (0, 0)) (kW BK285) hb); have n3_ := AM (bT bQ hb); clear HO298; clear BK278; clear BK285; clear HB; have HO298 := n0_; have BK278 := n1_; have BK285 := n2_; have HB := n3_; clear n0_ n1_ n2_ n3_; (try clear hb); (try clear hb2); (try clear hk); (try clear hi)) | ((with_reducible refine gC (f := 14) rfl ?_); refine gL (some 92) rfl rfl Tryd.func14 (by kernel_rfl) rfl #[.string t299] rfl (by (try simp only [List.map_toArray, List.map_cons, List.map_nil]); first | done | rfl | (simp only [List.length_drop, List.length_take]; rfl)) ?_; (with_reducible refine (word_Cut.calls t299 t301 t302 _ A43.out).mono ?_); rintro e w51 ⟨v303, rfl, ho0, hb⟩; refine ⟨_, rfl, ?_⟩; have n0_ := AM (Kd.R_elder' (by (with_reducible repeat (first | apply rA | apply rD | apply r1x)); exact HO298.out) (Kd.R_base ho0) hb); have n1_ := AM (Kd.R_lower (Kd.R_new' ho0 (Kd.R_lt (by (with_reducible repeat (first | apply rA | apply rD | apply r1x)); exact HO298.out))) (bZ bQ)); have n2_ := AM (kB (g := gb278) (o := .cells #[.int .i64 a0_0, .int .i64 a0_1, .int .i64 a0_2, .int .i64 a0_3, .bool a0_4] 23 (0, 0)) (kW BK278) hb); have n3_ := AM (kB (g := gb285) (o := .cells #[.int .i64 t279, .int .i64 t280, .int .i64 t281, .int .i64 t282, .bool t283] 23 (0, 0)) (kW BK285) hb); have n4_ := AM (bT bQ hb); clear HO298; clear BK278; clear BK285; clear HB; have HO298 := n0_; have HO304 := n1_; have BK278 := n2_; have BK285 := n3_; have HB := n4_; clear n0_ n1_ n2_ n3_ n4_; (try clear hb); (try clear hb2); (try clear hk); (try clear hi); (try clear ho0)))
              (try simp only [Act.put, List.setIfInBounds_toArray, List.set_cons_zero, List.set_cons_succ])
              go_cut [104] (fun v104 wc => ∃ (kq : Nat) (x104_43 : Bool), v104 = .bool x104_43 ∧ Aside0 (stipendtop_WholeCodes.j3 kq l1 a2 t301 x104_43 a0_0 a0_1 a0_2 a0_3 a0_4 = some r) ∧ Aside0 (kq ≤ k3) ∧ Aside0 (Kd.R Kd.string 9 wc w.heap.size (fun _ => True) v303 t301) ∧ Aside0 (wc.heap[gb278]? = some (.cells #[.int .i64 a0_0, .int .i64 a0_1, .int .i64 a0_2, .int .i64 a0_3, .bool a0_4] 23 (0, 0))) ∧ Aside0 (wc.heap[gb285]? = some (.cells #[.int .i64 t279, .int .i64 t280, .int .i64 t281, .int .i64 t282, .bool t283] 23 (0, 0))) ∧ Aside0 (Below w.heap.size w wc))
              case first =>
                have H := HC44.out
                clear HC44
                by_cases c52 : t302 = 0
                rotate_left
                · rw [if_neg c52] at H
                  have c52b0 : (t302 == 0) = false := beq_eq_false_iff_ne.mpr c52
                  have c52b1 : (t302 != 0) = true := bne_iff_ne.mpr c52
                  (first | rw [c52b0] | (simp only [i64_w, i32_w]; rw [c52b0]) | skip)
                  have H' := AM H
                  clear H
                  go_wp2
                  go_meet
                  case rel => exact ⟨_, (true), (by first | rfl | (simp; done) | (simp [*]; done)), H', ⟨by have := HJ4.out; have := HJ19.out; have := HK3.out; first | omega | exact Nat.le_refl _⟩, ⟨by (with_reducible repeat (first | apply rA | apply rD | apply r1x)); exact Kd.R_mono HO304.out (fun _ hk => trivial)⟩, ⟨by (with_reducible repeat (first | refine kD ?_ _ | refine k1_ ?_ | refine kA ?_ _)); exact BK278.out⟩, ⟨by (with_reducible repeat (first | refine kD ?_ _ | refine k1_ ?_ | refine kA ?_ _)); exact BK285.out⟩, ⟨by repeat (first | (with_reducible first | exact HB.out | apply bA | apply bD | apply b1 | refine bS ?_ GE278.out | refine bS ?_ GE285.out) | exact HB.out)⟩⟩
                rw [if_pos c52] at H
                have c52b0 : (t302 == 0) = true := beq_iff_eq.mpr c52
                have c52b1 : (t302 != 0) = false := bne_eq_false_iff_eq.mpr c52
                clear c52
                (first | rw [c52b0] | (simp only [i64_w, i32_w]; rw [c52b0]) | skip)
                have H' := AM H
                clear H
                obtain ⟨Ao53, co53, eo53⟩ := Kd.R_slice HO304.out
                subst eo53
                go_wp2
                go_meet
                case rel => exact ⟨_, (((t301.length : Int) != (wrap64 ((l1.length : Int) + 1)))), (by first | rfl | (simp; done) | (simp [*]; done)), H', ⟨by have := HJ4.out; have := HJ19.out; have := HK3.out; first | omega | exact Nat.le_refl _⟩, ⟨by (with_reducible repeat (first | apply rA | apply rD | apply r1x)); exact Kd.R_mono HO304.out (fun _ hk => trivial)⟩, ⟨by (with_reducible repeat (first | refine kD ?_ _ | refine k1_ ?_ | refine kA ?_ _)); exact BK278.out⟩, ⟨by (with_reducible repeat (first | refine kD ?_ _ | refine k1_ ?_ | refine kA ?_ _)); exact BK285.out⟩, ⟨by repeat (first | (with_reducible first | exact HB.out | apply bA | apply bD | apply b1 | refine bS ?_ GE278.out | refine bS ?_ GE285.out) | exact HB.out)⟩⟩
              case rest =>
                clear HC44
                (try clear c1); (try clear c2); (try clear p2); (try clear q2); (try clear hx2); (try clear c3); (try clear c4); (try clear c5); (try clear p6); (try clear c9); (try clear c11); (try clear c11b0); (try clear c11b1); (try clear c12); (try clear c12b0); (try clear c12b1); (try clear c13); (try clear c14); (try clear c16); (try clear c18); (try clear c21); (try clear c24); (try clear c24b0); (try clear c24b1); (try clear c25); (try clear c27); (try clear c27b0); (try clear c27b1); (try clear c28); (try clear p28); (try clear q28); (try clear hx28); (try clear c31); (try clear c34); (try clear c34b0); (try clear c35); (try clear c35b0); (try clear c36); (try clear c36b0); (try clear c37); (try clear c37b0); (try clear c37b1); (try clear c38); (try clear c38b0); (try clear c39); (try clear c40); (try clear c42); (try clear c42b0); (try clear c42b1); (try clear c52); (try clear c52b0); (try clear c52b1); (try clear hcz10_0); (try clear hcz10_1); (try clear hcz10_2); (try clear hcz10_3); (try clear hcz10_4); (try clear hcz15_0); (try clear hcz15_1); (try clear hcz15_2); (try clear hcz15_3); (try clear hcz15_4); (try clear hcz17_0); (try clear hcz17_1); (try clear hcz17_2); (try clear hcz17_3); (try clear hcz17_4); (try clear hcz22_0); (try clear hcz22_1); (try clear hcz22_2); (try clear hcz22_3); (try clear hcz22_4); (try clear hcz29_0); (try clear hcz29_1); (try clear hcz29_2); (try clear hcz29_3); (try clear hcz29_4); (try clear hcz32_0); (try clear hcz32_1); (try clear hcz32_2); (try clear hcz32_3); (try clear hcz32_4); (try clear hfz10_0); (try clear hfz10_1); (try clear hfz10_2); (try clear hfz10_3); (try clear hfz10_4); (try clear hfz15_0); (try clear hfz15_1); (try clear hfz15_2); (try clear hfz15_3); (try clear hfz15_4); (try clear hfz17_0); (try clear hfz17_1); (try clear hfz17_2); (try clear hfz17_3); (try clear hfz17_4); (try clear hfz22_0); (try clear hfz22_1); (try clear hfz22_2); (try clear hfz22_3); (try clear hfz22_4); (try clear hfz29_0); (try clear hfz29_1); (try clear hfz29_2); (try clear hfz29_3); (try clear hfz29_4); (try clear hfz32_0); (try clear hfz32_1); (try clear hfz32_2); (try clear hfz32_3); (try clear hfz32_4); (try clear hx289_0); (try clear p2); (try clear p289); (try clear q289)
                obtain ⟨kq, x104_43, rfl, HA, HJ43, HO_15, BK278, BK285, HB⟩ := hcut
                cases kq with
                | zero => exact absurd HA.out (by simp [stipendtop_WholeCodes.j3])
                | succ kj43 =>
                  have H := HA.out
                  clear HA
                  simp only [stipendtop_WholeCodes.j3] at H
                  by_cases c54 : x104_43 = true
                  · subst c54
                    have H1 : (some false) = some r := by rw [if_pos rfl] at H; exact H
                    clear H
                    have H := H1
                    clear H1
                    exact absurd (Option.some.inj H) (by rw [HRT.out]; decide)
                  replace c54 := Bool.eq_false_iff.mpr c54
                  subst c54
                  have H1 : (if 0 ≤ (l1.length : Int) then (if (l1.length : Int) < (t301.length : Int) then ((code_Parse.f kj43 (rdOf ByteArray.empty t301 (l1.length : Int))).bind fun bt306 => (if bt306.2.2.2.2.2 = 0 then (stipendtop_WholeCodes.j4 kj43 a2 (!(bt306.1 == a0_0) || (!(bt306.2.1 == a0_1) || (!(bt306.2.2.1 == a0_2) || (!(bt306.2.2.2.1 == a0_3) || (!(bt306.2.2.2.2.1 == a0_4)))))) a0_0 a0_1 a0_2 a0_3 a0_4) else (stipendtop_WholeCodes.j4 kj43 a2 true a0_0 a0_1 a0_2 a0_3 a0_4))) else (none)) else (none)) = some r := by rw [if_neg (show ¬ (false = true) by decide)] at H; exact H
                  clear H
                  have H := H1
                  clear H1
                  by_cases c55 : 0 ≤ (l1.length : Int)
                  rotate_left
                  · rw [if_neg c55] at H
                    exact absurd H (by simp)
                  rw [if_pos c55] at H
                  have c55b0 := decide_eq_true c55
                  have c55b1 : decide (0 ≤ l1.length) = true := decide_eq_true (by omega)
                  clear c55
                  by_cases c56 : (l1.length : Int) < (t301.length : Int)
                  rotate_left
                  · rw [if_neg c56] at H
                    exact absurd H (by simp)
                  rw [if_pos c56] at H
                  have c56b0 := decide_eq_true c56
                  have c56b1 : decide (l1.length < t301.length) = true := decide_eq_true (Int.ofNat_lt.mp c56)
                  clear c56
                  replace H := Option.bind_eq_some_iff.mp H
                  obtain ⟨⟨t306, t307, t308, t309, t310, t311⟩, A570, H⟩ := H
                  replace H : (if t311 = 0 then (stipendtop_WholeCodes.j4 kj43 a2 (!(t306 == a0_0) || (!(t307 == a0_1) || (!(t308 == a0_2) || (!(t309 == a0_3) || (!(t310 == a0_4)))))) a0_0 a0_1 a0_2 a0_3 a0_4) else (stipendtop_WholeCodes.j4 kj43 a2 true a0_0 a0_1 a0_2 a0_3 a0_4)) = some r := H
                  have A57 := AM A570
                  clear A570
                  have HC58 := AM H
                  clear H
                  obtain ⟨Ao59, co59, eo59⟩ := Kd.R_slice HO_15.out
                  subst eo59
                  have p305 : 0 ≤ ((l1.length : Int) : Int) := of_decide_eq_true (by first | (with_reducible assumption) | assumption)
                  have q305 : (l1.length : Int) < (t301.length : Int) := of_decide_eq_true (by first | (with_reducible assumption) | assumption)
                  obtain ⟨ad305, e305, hx305_0⟩ := Kd.at_string (Kd.R_reads' HO_15.out).2.2 (l1.length : Int) p305 q305
                  cases e305
                  (try simp only [Go.IntWalk.toNatUp] at hx305_0)
                  replace p305 := eq_true p305
                  replace q305 := eq_true q305
                  go_upto_region 22 with (first | ((with_reducible refine gC (f := 9) rfl ?_); refine gL (some 111) rfl rfl Tryd.func9 (by kernel_rfl) rfl #[.string (rdOf ByteArray.empty t301 (l1.length : Int))] rfl (by (try simp only [List.map_toArray, List.map_cons, List.map_nil]); first | done | rfl | (simp only [List.length_drop, List.length_take]; rfl)) ?_; (with_reducible refine (code_Parse.calls kj43 (rdOf ByteArray.empty t301 (l1.length : Int)) t306 t307 t308 t309 t310 t311 _ A57.out).mono ?_); rintro e w60 ⟨rfl, hb⟩; refine ⟨_, rfl, ?_⟩; have n0_ := AM (Kd.R_below (by (with_reducible repeat (first | apply rA | apply rD | apply r1x)); exact HO_15.out) hb); have n1_ := AM (kB (g := gb278) (o := .cells #[.int .i64 a0_0, .int .i64 a0_1, .int .i64 a0_2, .int .i64 a0_3, .bool a0_4] 23 (0, 0)) (kW BK278) hb); have n2_ := AM (kB (g := gb285) (o := .cells #[.int .i64 t279, .int .i64 t280, .int .i64 t281, .int .i64 t282, .bool t283] 23 (0, 0)) (kW BK285) hb); have n3_ := AM (bT bQ hb); clear HO_15; clear BK278; clear BK285; clear HB; have HO_15 := n0_; have BK278 := n1_; have BK285 := n2_; have HB := n3_; clear n0_ n1_ n2_ n3_; (try clear hb); (try clear hb2); (try clear hk); (try clear hi)) | ((with_reducible refine gD (N := 16) rfl ?_); (try (refine gG (by rfl) ?_; dsimp only)); refine bE ?hg (N := 16) ?hd (cs := #[.int .i64 0, .int .i64 0, .int .i64 0, .int .i64 0, .bool false]) (t := 23) ?hr ?_; (case hd => rfl); (case hg => rfl); (case hr => first | (go_simp; done) | (go_simp; rfl)); intro gb312 hg w61 hbox hb; have n0_ := AM (Kd.R_below (by (with_reducible repeat (first | apply rA | apply rD | apply r1x)); exact HO_15.out) hb); have n1_ := AM (kB (g := gb278) (o := .cells #[.int .i64 a0_0, .int .i64 a0_1, .int .i64 a0_2, .int .i64 a0_3, .bool a0_4] 23 (0, 0)) (kW BK278) hb); have n2_ := AM (kB (g := gb285) (o := .cells #[.int .i64 t279, .int .i64 t280, .int .i64 t281, .int .i64 t282, .bool t283] 23 (0, 0)) (kW BK285) hb); have n3_ := AM (bT bQ hb); have n4_ := AM (hbox); have n5_ := AM ((by rw [hg]; exact (bZ bQ) : w.heap.size ≤ gb312)); have n6_ := AM ((by rw [hg]; exact (bZ bQ) : w.heap.size ≤ gb312)); have n7_ := AM ((by rw [hg]; exact Nat.ne_of_lt (blk_lt (g := gb278) (o := .cells #[.int .i64 a0_0, .int .i64 a0_1, .int .i64 a0_2, .int .i64 a0_3, .bool a0_4] 23 (0, 0)) (kW BK278)) : gb278 ≠ gb312)); have n8_ := AM ((by rw [hg]; exact Nat.ne_of_gt (blk_lt (g := gb278) (o := .cells #[.int .i64 a0_0, .int .i64 a0_1, .int .i64 a0_2, .int .i64 a0_3, .bool a0_4] 23 (0, 0)) (kW BK278)) : gb312 ≠ gb278)); have n9_ := AM ((by rw [hg]; exact Nat.ne_of_lt (blk_lt (g := gb285) (o := .cells #[.int .i64 t279, .int .i64 t280, .int .i64 t281, .int .i64 t282, .bool t283] 23 (0, 0)) (kW BK285)) : gb285 ≠ gb312)); have n10_ := AM ((by rw [hg]; exact Nat.ne_of_gt (blk_lt (g := gb285) (o := .cells #[.int .i64 t279, .int .i64 t280, .int .i64 t281, .int .i64 t282, .bool t283] 23 (0, 0)) (kW BK285)) : gb312 ≠ gb285)); clear HO_15; clear BK278; clear BK285; clear HB; have HO_15 := n0_; have BK278 := n1_; have BK285 := n2_; have HB := n3_; have BK312 := n4_; have GW312 := n5_; have GE312 := n6_; have NB278_312 := n7_; have NB312_278 := n8_; have NB285_312 := n9_; have NB312_285 := n10_; clear n0_ n1_ n2_ n3_ n4_ n5_ n6_ n7_ n8_ n9_ n10_; clear hb hbox hg; have hnb62 := NB312_278.out; have hnc62 := NB278_312.out; have hnb63 := NB312_285.out; have hnc63 := NB285_312.out; obtain ⟨_, _, _, _, _, _, _, _, _, _⟩ := bX5 BK312.out))
                  (try simp only [Act.put, List.setIfInBounds_toArray, List.set_cons_zero, List.set_cons_succ])
                  go_cut [120] (fun v120 wc => ∃ (kq : Nat) (x120_57 : Bool), v120 = .bool x120_57 ∧ Aside0 (stipendtop_WholeCodes.j4 kq a2 x120_57 a0_0 a0_1 a0_2 a0_3 a0_4 = some r) ∧ Aside0 (kq ≤ kj43) ∧ Aside0 (wc.heap[gb278]? = some (.cells #[.int .i64 a0_0, .int .i64 a0_1, .int .i64 a0_2, .int .i64 a0_3, .bool a0_4] 23 (0, 0))) ∧ Aside0 (wc.heap[gb285]? = some (.cells #[.int .i64 t279, .int .i64 t280, .int .i64 t281, .int .i64 t282, .bool t283] 23 (0, 0))) ∧ Aside0 (wc.heap[gb312]? = some (.cells #[.int .i64 t306, .int .i64 t307, .int .i64 t308, .int .i64 t309, .bool t310] 23 (0, 0))) ∧ Aside0 (Below w.heap.size w wc))
                  case first =>
                    have H := HC58.out
                    clear HC58
                    by_cases c65 : t311 = 0
                    rotate_left
                    · rw [if_neg c65] at H
                      have c65b0 : (t311 == 0) = false := beq_eq_false_iff_ne.mpr c65
                      have c65b1 : (t311 != 0) = true := bne_iff_ne.mpr c65
                      (first | rw [c65b0] | (simp only [i64_w, i32_w]; rw [c65b0]) | skip)
                      have H' := AM H
                      clear H
                      go_wp2
                      go_meet
                      case rel => exact ⟨_, (true), (by first | rfl | (simp; done) | (simp [*]; done)), H', ⟨by have := HJ4.out; have := HJ19.out; have := HK3.out; have := HJ43.out; first | omega | exact Nat.le_refl _⟩, ⟨by (with_reducible repeat (first | refine kD ?_ _ | refine k1_ ?_ | refine kA ?_ _)); refine kF ?_ NB278_312.out _; (with_reducible repeat (first | refine kD ?_ _ | refine k1_ ?_ | refine kA ?_ _)); refine kF ?_ NB278_312.out _; (with_reducible repeat (first | refine kD ?_ _ | refine k1_ ?_ | refine kA ?_ _)); refine kF ?_ NB278_312.out _; (with_reducible repeat (first | refine kD ?_ _ | refine k1_ ?_ | refine kA ?_ _)); refine kF ?_ NB278_312.out _; (with_reducible repeat (first | refine kD ?_ _ | refine k1_ ?_ | refine kA ?_ _)); refine kF ?_ NB278_312.out _; (with_reducible repeat (first | refine kD ?_ _ | refine k1_ ?_ | refine kA ?_ _)); exact BK278.out⟩, ⟨by (with_reducible repeat (first | refine kD ?_ _ | refine k1_ ?_ | refine kA ?_ _)); refine kF ?_ NB285_312.out _; (with_reducible repeat (first | refine kD ?_ _ | refine k1_ ?_ | refine kA ?_ _)); refine kF ?_ NB285_312.out _; (with_reducible repeat (first | refine kD ?_ _ | refine k1_ ?_ | refine kA ?_ _)); refine kF ?_ NB285_312.out _; (with_reducible repeat (first | refine kD ?_ _ | refine k1_ ?_ | refine kA ?_ _)); refine kF ?_ NB285_312.out _; (with_reducible repeat (first | refine kD ?_ _ | refine k1_ ?_ | refine kA ?_ _)); refine kF ?_ NB285_312.out _; (with_reducible repeat (first | refine kD ?_ _ | refine k1_ ?_ | refine kA ?_ _)); exact BK285.out⟩, ⟨by (with_reducible repeat (first | refine kD ?_ _ | refine k1_ ?_ | refine kA ?_ _)); refine kP (cs := #[.int .i64 t306, .int .i64 t307, .int .i64 t308, .int .i64 t309, .bool false]) ?_ 4 _ (by first | rfl | (simp only [u8w]; rfl)); (with_reducible repeat (first | refine kD ?_ _ | refine k1_ ?_ | refine kA ?_ _)); refine kP (cs := #[.int .i64 t306, .int .i64 t307, .int .i64 t308, .int .i64 0, .bool false]) ?_ 3 _ (by first | rfl | (simp only [u8w]; rfl)); (with_reducible repeat (first | refine kD ?_ _ | refine k1_ ?_ | refine kA ?_ _)); refine kP (cs := #[.int .i64 t306, .int .i64 t307, .int .i64 0, .int .i64 0, .bool false]) ?_ 2 _ (by first | rfl | (simp only [u8w]; rfl)); (with_reducible repeat (first | refine kD ?_ _ | refine k1_ ?_ | refine kA ?_ _)); refine kP (cs := #[.int .i64 t306, .int .i64 0, .int .i64 0, .int .i64 0, .bool false]) ?_ 1 _ (by first | rfl | (simp only [u8w]; rfl)); (with_reducible repeat (first | refine kD ?_ _ | refine k1_ ?_ | refine kA ?_ _)); refine kP (cs := #[.int .i64 0, .int .i64 0, .int .i64 0, .int .i64 0, .bool false]) ?_ 0 _ (by first | rfl | (simp only [u8w]; rfl)); (with_reducible repeat (first | refine kD ?_ _ | refine k1_ ?_ | refine kA ?_ _)); exact BK312.out⟩, ⟨by repeat (first | (with_reducible first | exact HB.out | apply bA | apply bD | apply b1 | refine bS ?_ GE278.out | refine bS ?_ GE285.out | refine bS ?_ GE312.out) | exact HB.out)⟩⟩
                    rw [if_pos c65] at H
                    have c65b0 : (t311 == 0) = true := beq_iff_eq.mpr c65
                    have c65b1 : (t311 != 0) = false := bne_eq_false_iff_eq.mpr c65
                    clear c65
                    (first | rw [c65b0] | (simp only [i64_w, i32_w]; rw [c65b0]) | skip)
                    have H' := AM H
                    clear H
                    have hnb66 := NB312_278.out
                    have hnc66 := NB278_312.out
                    have hnb67 := NB312_285.out
                    have hnc67 := NB285_312.out
                    obtain ⟨_, _, _, _, _, _, _, _, _, _⟩ := bX5 BK312.out
                    have hnb69 := NB278_285.out
                    have hnc69 := NB285_278.out
                    obtain ⟨_, _, _, _, _, _, _, _, _, _⟩ := bX5 BK278.out
                    go_wp2
                    go_meet
                    case rel => exact ⟨_, ((!(t306 == a0_0) || (!(t307 == a0_1) || (!(t308 == a0_2) || (!(t309 == a0_3) || (!(t310 == a0_4))))))), (by first | rfl | (simp; done) | (simp [*]; done)), H', ⟨by have := HJ4.out; have := HJ19.out; have := HK3.out; have := HJ43.out; first | omega | exact Nat.le_refl _⟩, ⟨by (with_reducible repeat (first | refine kD ?_ _ | refine k1_ ?_ | refine kA ?_ _)); refine kF ?_ NB278_312.out _; (with_reducible repeat (first | refine kD ?_ _ | refine k1_ ?_ | refine kA ?_ _)); refine kF ?_ NB278_312.out _; (with_reducible repeat (first | refine kD ?_ _ | refine k1_ ?_ | refine kA ?_ _)); refine kF ?_ NB278_312.out _; (with_reducible repeat (first | refine kD ?_ _ | refine k1_ ?_ | refine kA ?_ _)); refine kF ?_ NB278_312.out _; (with_reducible repeat (first | refine kD ?_ _ | refine k1_ ?_ | refine kA ?_ _)); refine kF ?_ NB278_312.out _; (with_reducible repeat (first | refine kD ?_ _ | refine k1_ ?_ | refine kA ?_ _)); exact BK278.out⟩, ⟨by (with_reducible repeat (first | refine kD ?_ _ | refine k1_ ?_ | refine kA ?_ _)); refine kF ?_ NB285_312.out _; (with_reducible repeat (first | refine kD ?_ _ | refine k1_ ?_ | refine kA ?_ _)); refine kF ?_ NB285_312.out _; (with_reducible repeat (first | refine kD ?_ _ | refine k1_ ?_ | refine kA ?_ _)); refine kF ?_ NB285_312.out _; (with_reducible repeat (first | refine kD ?_ _ | refine k1_ ?_ | refine kA ?_ _)); refine kF ?_ NB285_312.out _; (with_reducible repeat (first | refine kD ?_ _ | refine k1_ ?_ | refine kA ?_ _)); refine kF ?_ NB285_312.out _; (with_reducible repeat (first | refine kD ?_ _ | refine k1_ ?_ | refine kA ?_ _)); exact BK285.out⟩, ⟨by (with_reducible repeat (first | refine kD ?_ _ | refine k1_ ?_ | refine kA ?_ _)); refine kP (cs := #[.int .i64 t306, .int .i64 t307, .int .i64 t308, .int .i64 t309, .bool false]) ?_ 4 _ (by first | rfl | (simp only [u8w]; rfl)); (with_reducible repeat (first | refine kD ?_ _ | refine k1_ ?_ | refine kA ?_ _)); refine kP (cs := #[.int .i64 t306, .int .i64 t307, .int .i64 t308, .int .i64 0, .bool false]) ?_ 3 _ (by first | rfl | (simp only [u8w]; rfl)); (with_reducible repeat (first | refine kD ?_ _ | refine k1_ ?_ | refine kA ?_ _)); refine kP (cs := #[.int .i64 t306, .int .i64 t307, .int .i64 0, .int .i64 0, .bool false]) ?_ 2 _ (by first | rfl | (simp only [u8w]; rfl)); (with_reducible repeat (first | refine kD ?_ _ | refine k1_ ?_ | refine kA ?_ _)); refine kP (cs := #[.int .i64 t306, .int .i64 0, .int .i64 0, .int .i64 0, .bool false]) ?_ 1 _ (by first | rfl | (simp only [u8w]; rfl)); (with_reducible repeat (first | refine kD ?_ _ | refine k1_ ?_ | refine kA ?_ _)); refine kP (cs := #[.int .i64 0, .int .i64 0, .int .i64 0, .int .i64 0, .bool false]) ?_ 0 _ (by first | rfl | (simp only [u8w]; rfl)); (with_reducible repeat (first | refine kD ?_ _ | refine k1_ ?_ | refine kA ?_ _)); exact BK312.out⟩, ⟨by repeat (first | (with_reducible first | exact HB.out | apply bA | apply bD | apply b1 | refine bS ?_ GE278.out | refine bS ?_ GE285.out | refine bS ?_ GE312.out) | exact HB.out)⟩⟩
                  case rest =>
                    clear HC58
                    (try clear c1); (try clear c2); (try clear p2); (try clear q2); (try clear hx2); (try clear c3); (try clear p3); (try clear q3); (try clear hx3); (try clear c4); (try clear c5); (try clear c6); (try clear p6); (try clear c9); (try clear c11); (try clear c11b0); (try clear c11b1); (try clear c12); (try clear c12b0); (try clear c12b1); (try clear c13); (try clear c14); (try clear c16); (try clear c18); (try clear c21); (try clear c24); (try clear c24b0); (try clear c24b1); (try clear c25); (try clear c27); (try clear c27b0); (try clear c27b1); (try clear c28); (try clear p28); (try clear q28); (try clear hx28); (try clear p30); (try clear q30); (try clear hx30); (try clear c31); (try clear c34); (try clear c34b0); (try clear c35); (try clear c35b0); (try clear c36); (try clear c36b0); (try clear c37); (try clear c37b0); (try clear c37b1); (try clear c38); (try clear c38b0); (try clear c39); (try clear c40); (try clear c42); (try clear c42b0); (try clear c42b1); (try clear c52); (try clear c52b0); (try clear c52b1); (try clear c54); (try clear c55); (try clear c55b0); (try clear c55b1); (try clear c56); (try clear c56b0); (try clear c56b1); (try clear c62); (try clear c63); (try clear p64); (try clear c65); (try clear c65b0); (try clear c65b1); (try clear c66); (try clear c67); (try clear c69); (try clear hcz10_0); (try clear hcz10_1); (try clear hcz10_2); (try clear hcz10_3); (try clear hcz10_4); (try clear hcz15_0); (try clear hcz15_1); (try clear hcz15_2); (try clear hcz15_3); (try clear hcz15_4); (try clear hcz17_0); (try clear hcz17_1); (try clear hcz17_2); (try clear hcz17_3); (try clear hcz17_4); (try clear hcz22_0); (try clear hcz22_1); (try clear hcz22_2); (try clear hcz22_3); (try clear hcz22_4); (try clear hcz29_0); (try clear hcz29_1); (try clear hcz29_2); (try clear hcz29_3); (try clear hcz29_4); (try clear hcz32_0); (try clear hcz32_1); (try clear hcz32_2); (try clear hcz32_3); (try clear hcz32_4); (try clear hcz64_0); (try clear hcz64_1); (try clear hcz64_2); (try clear hcz64_3); (try clear hcz64_4); (try clear hcz68_0); (try clear hcz68_1); (try clear hcz68_2); (try clear hcz68_3); (try clear hcz68_4); (try clear hcz70_0); (try clear hcz70_1); (try clear hcz70_2); (try clear hcz70_3); (try clear hcz70_4); (try clear hfz10_0); (try clear hfz10_1); (try clear hfz10_2); (try clear hfz10_3); (try clear hfz10_4); (try clear hfz15_0); (try clear hfz15_1); (try clear hfz15_2); (try clear hfz15_3); (try clear hfz15_4); (try clear hfz17_0); (try clear hfz17_1); (try clear hfz17_2); (try clear hfz17_3); (try clear hfz17_4); (try clear hfz22_0); (try clear hfz22_1); (try clear hfz22_2); (try clear hfz22_3); (try clear hfz22_4); (try clear hfz29_0); (try clear hfz29_1); (try clear hfz29_2); (try clear hfz29_3); (try clear hfz29_4); (try clear hfz32_0); (try clear hfz32_1); (try clear hfz32_2); (try clear hfz32_3); (try clear hfz32_4); (try clear hfz64_0); (try clear hfz64_1); (try clear hfz64_2); (try clear hfz64_3); (try clear hfz64_4); (try clear hfz68_0); (try clear hfz68_1); (try clear hfz68_2); (try clear hfz68_3); (try clear hfz68_4); (try clear hfz70_0); (try clear hfz70_1); (try clear hfz70_2); (try clear hfz70_3); (try clear hfz70_4); (try clear hx289_0); (try clear hx305_0); (try clear p2); (try clear p28); (try clear p289); (try clear p305); (try clear p6); (try clear q2); (try clear q28); (try clear q289); (try clear q305)
                    obtain ⟨kq, x120_57, rfl, HA, HJ57, BK278, BK285, BK312, HB⟩ := hcut
                    cases kq with
                    | zero => exact absurd HA.out (by simp [stipendtop_WholeCodes.j4])
                    | succ kj57 =>
                      have H := HA.out
                      clear HA
                      simp only [stipendtop_WholeCodes.j4] at H
                      by_cases c71 : x120_57 = true
                      · subst c71
                        have H1 : (some false) = some r := by rw [if_pos rfl] at H; exact H
                        clear H
                        have H := H1
                        clear H1
                        exact absurd (Option.some.inj H) (by rw [HRT.out]; decide)
                      replace c71 := Bool.eq_false_iff.mpr c71
                      subst c71
                      have H1 : (if a2 < 0 then (stipendtop_WholeCodes.j5 kj57 a2 true a0_0 a0_1 a0_2 a0_3 a0_4) else (stipendtop_WholeCodes.j5 kj57 a2 (decide (a2 > 12)) a0_0 a0_1 a0_2 a0_3 a0_4)) = some r := by rw [if_neg (show ¬ (false = true) by decide)] at H; exact H
                      clear H
                      have H := H1
                      clear H1
                      have HC72 := AM H
                      clear H
                      go_upto_region 24 with (fail)
                      go_cut [126] (fun v126 wc => ∃ (kq : Nat) (x126_71 : Bool), v126 = .bool x126_71 ∧ Aside0 (stipendtop_WholeCodes.j5 kq a2 x126_71 a0_0 a0_1 a0_2 a0_3 a0_4 = some r) ∧ Aside0 (kq ≤ kj57) ∧ Aside0 (wc.heap[gb278]? = some (.cells #[.int .i64 a0_0, .int .i64 a0_1, .int .i64 a0_2, .int .i64 a0_3, .bool a0_4] 23 (0, 0))) ∧ Aside0 (wc.heap[gb285]? = some (.cells #[.int .i64 t279, .int .i64 t280, .int .i64 t281, .int .i64 t282, .bool t283] 23 (0, 0))) ∧ Aside0 (wc.heap[gb312]? = some (.cells #[.int .i64 t306, .int .i64 t307, .int .i64 t308, .int .i64 t309, .bool t310] 23 (0, 0))) ∧ Aside0 (Below w.heap.size w wc))
                      case first =>
                        have H := HC72.out
                        clear HC72
                        by_cases c73 : a2 < 0
                        · rw [if_pos c73] at H
                          have c73b0 := decide_eq_true c73
                          clear c73
                          (first | rw [c73b0] | (simp only [i64_w, i32_w]; rw [c73b0]) | skip)
                          have H' := AM H
                          clear H
                          go_wp2
                          go_meet
                          case rel => exact ⟨_, (true), (by first | rfl | (simp; done) | (simp [*]; done)), H', ⟨by have := HJ4.out; have := HJ19.out; have := HK3.out; have := HJ43.out; have := HJ57.out; first | omega | exact Nat.le_refl _⟩, ⟨by (with_reducible repeat (first | refine kD ?_ _ | refine k1_ ?_ | refine kA ?_ _)); exact BK278.out⟩, ⟨by (with_reducible repeat (first | refine kD ?_ _ | refine k1_ ?_ | refine kA ?_ _)); exact BK285.out⟩, ⟨by (with_reducible repeat (first | refine kD ?_ _ | refine k1_ ?_ | refine kA ?_ _)); exact BK312.out⟩, ⟨by repeat (first | (with_reducible first | exact HB.out | apply bA | apply bD | apply b1 | refine bS ?_ GE278.out | refine bS ?_ GE285.out | refine bS ?_ GE312.out) | exact HB.out)⟩⟩
                        rw [if_neg c73] at H
                        have c73b0 := decide_eq_false c73
                        clear c73
                        (first | rw [c73b0] | (simp only [i64_w, i32_w]; rw [c73b0]) | skip)
                        have H' := AM H
                        clear H
                        go_wp2
                        go_meet
                        case rel => exact ⟨_, (decide (a2 > 12)), (by first | rfl | (simp; done) | (simp [*]; done)), H', ⟨by have := HJ4.out; have := HJ19.out; have := HK3.out; have := HJ43.out; have := HJ57.out; first | omega | exact Nat.le_refl _⟩, ⟨by (with_reducible repeat (first | refine kD ?_ _ | refine k1_ ?_ | refine kA ?_ _)); exact BK278.out⟩, ⟨by (with_reducible repeat (first | refine kD ?_ _ | refine k1_ ?_ | refine kA ?_ _)); exact BK285.out⟩, ⟨by (with_reducible repeat (first | refine kD ?_ _ | refine k1_ ?_ | refine kA ?_ _)); exact BK312.out⟩, ⟨by repeat (first | (with_reducible first | exact HB.out | apply bA | apply bD | apply b1 | refine bS ?_ GE278.out | refine bS ?_ GE285.out | refine bS ?_ GE312.out) | exact HB.out)⟩⟩
                      case rest =>
                        clear HC72
                        (try clear c1); (try clear c2); (try clear p2); (try clear q2); (try clear hx2); (try clear c3); (try clear p3); (try clear q3); (try clear hx3); (try clear c4); (try clear c5); (try clear c6); (try clear p6); (try clear c7); (try clear c9); (try clear c11); (try clear c11b0); (try clear c11b1); (try clear c12); (try clear c12b0); (try clear c12b1); (try clear c13); (try clear c14); (try clear c16); (try clear c18); (try clear c21); (try clear c24); (try clear c24b0); (try clear c24b1); (try clear c25); (try clear c27); (try clear c27b0); (try clear c27b1); (try clear c28); (try clear p28); (try clear q28); (try clear hx28); (try clear p30); (try clear q30); (try clear hx30); (try clear c31); (try clear c34); (try clear c34b0); (try clear c35); (try clear c35b0); (try clear c36); (try clear c36b0); (try clear c37); (try clear c37b0); (try clear c37b1); (try clear c38); (try clear c38b0); (try clear c39); (try clear c40); (try clear c42); (try clear c42b0); (try clear c42b1); (try clear c52); (try clear c52b0); (try clear c52b1); (try clear c54); (try clear c55); (try clear c55b0); (try clear c55b1); (try clear c56); (try clear c56b0); (try clear c56b1); (try clear c62); (try clear c63); (try clear p64); (try clear c65); (try clear c65b0); (try clear c65b1); (try clear c66); (try clear c67); (try clear c69); (try clear c71); (try clear c73); (try clear c73b0); (try clear hcz10_0); (try clear hcz10_1); (try clear hcz10_2); (try clear hcz10_3); (try clear hcz10_4); (try clear hcz15_0); (try clear hcz15_1); (try clear hcz15_2); (try clear hcz15_3); (try clear hcz15_4); (try clear hcz17_0); (try clear hcz17_1); (try clear hcz17_2); (try clear hcz17_3); (try clear hcz17_4); (try clear hcz22_0); (try clear hcz22_1); (try clear hcz22_2); (try clear hcz22_3); (try clear hcz22_4); (try clear hcz29_0); (try clear hcz29_1); (try clear hcz29_2); (try clear hcz29_3); (try clear hcz29_4); (try clear hcz32_0); (try clear hcz32_1); (try clear hcz32_2); (try clear hcz32_3); (try clear hcz32_4); (try clear hcz64_0); (try clear hcz64_1); (try clear hcz64_2); (try clear hcz64_3); (try clear hcz64_4); (try clear hcz68_0); (try clear hcz68_1); (try clear hcz68_2); (try clear hcz68_3); (try clear hcz68_4); (try clear hcz70_0); (try clear hcz70_1); (try clear hcz70_2); (try clear hcz70_3); (try clear hcz70_4); (try clear hfz10_0); (try clear hfz10_1); (try clear hfz10_2); (try clear hfz10_3); (try clear hfz10_4); (try clear hfz15_0); (try clear hfz15_1); (try clear hfz15_2); (try clear hfz15_3); (try clear hfz15_4); (try clear hfz17_0); (try clear hfz17_1); (try clear hfz17_2); (try clear hfz17_3); (try clear hfz17_4); (try clear hfz22_0); (try clear hfz22_1); (try clear hfz22_2); (try clear hfz22_3); (try clear hfz22_4); (try clear hfz29_0); (try clear hfz29_1); (try clear hfz29_2); (try clear hfz29_3); (try clear hfz29_4); (try clear hfz32_0); (try clear hfz32_1); (try clear hfz32_2); (try clear hfz32_3); (try clear hfz32_4); (try clear hfz64_0); (try clear hfz64_1); (try clear hfz64_2); (try clear hfz64_3); (try clear hfz64_4); (try clear hfz68_0); (try clear hfz68_1); (try clear hfz68_2); (try clear hfz68_3); (try clear hfz68_4); (try clear hfz70_0); (try clear hfz70_1); (try clear hfz70_2); (try clear hfz70_3); (try clear hfz70_4); (try clear hx289_0); (try clear hx305_0); (try clear p2); (try clear p28); (try clear p289); (try clear p3); (try clear p30); (try clear p305); (try clear p6); (try clear p64); (try clear q2); (try clear q28); (try clear q289); (try clear q3); (try clear q30); (try clear q305)
                        obtain ⟨kq, x126_71, rfl, HA, HJ71, BK278, BK285, BK312, HB⟩ := hcut
                        cases kq with
                        | zero => exact absurd HA.out (by simp [stipendtop_WholeCodes.j5])
                        | succ kj71 =>
                          have H := HA.out
                          clear HA
                          simp only [stipendtop_WholeCodes.j5] at H
                          by_cases c74 : x126_71 = true
                          · subst c74
                            have H1 : (some true) = some r := by rw [if_pos rfl] at H; exact H
                            clear H
                            have H := H1
                            clear H1
                            obtain rfl := Option.some.inj H
                            go_wp2
                            go_ret
                            exact ⟨by first | rfl | (simp [errW_none, errW_some] <;> rfl) | (simp [*, errW_none, errW_some] <;> rfl), by repeat (first | (with_reducible first | exact HB.out | apply bA | apply bD | apply b1 | refine bS ?_ GE278.out | refine bS ?_ GE285.out | refine bS ?_ GE312.out) | exact HB.out)⟩
                          replace c74 := Bool.eq_false_iff.mpr c74
                          subst c74
                          have H1 : ((code_Free.f kj71 a0_0 a0_1 a0_2 a0_3 a0_4 a2 12).bind fun bt313 => ((code_Free.f kj71 a0_0 a0_1 a0_2 a0_3 a0_4 (wrap64 (12 - a2)) 12).bind fun bt315 => ((code_Free.f kj71 a0_0 a0_1 a0_2 a0_3 a0_4 12 12).bind fun bt317 => (if a0_1 = 2 then (if (wrap64 ((wrap64 (bt313.2 + bt315.2)) + bt317.2)) = 0 then (if (wrap64 (-(wrap64 ((wrap64 (bt317.1 - bt313.1)) - bt315.1)))) ≥ 0 then (some (decide ((wrap64 (-(wrap64 ((wrap64 (bt317.1 - bt313.1)) - bt315.1)))) ≤ 1))) else (some false)) else (some false)) else (if (wrap64 ((wrap64 (bt313.2 + bt315.2)) + bt317.2)) = 0 then (if (wrap64 ((wrap64 (bt317.1 - bt313.1)) - bt315.1)) ≥ 0 then (some (decide ((wrap64 ((wrap64 (bt317.1 - bt313.1)) - bt315.1)) ≤ 1))) else (some false)) else (some false)))))) = some r := by rw [if_neg (show ¬ (false = true) by decide)] at H; exact H
                          clear H
                          have H := H1
                          clear H1
                          replace H := Option.bind_eq_some_iff.mp H
                          obtain ⟨⟨t313, t314⟩, A750, H⟩ := H
                          replace H : ((code_Free.f kj71 a0_0 a0_1 a0_2 a0_3 a0_4 (wrap64 (12 - a2)) 12).bind fun bt315 => ((code_Free.f kj71 a0_0 a0_1 a0_2 a0_3 a0_4 12 12).bind fun bt317 => (if a0_1 = 2 then (if (wrap64 ((wrap64 (t314 + bt315.2)) + bt317.2)) = 0 then (if (wrap64 (-(wrap64 ((wrap64 (bt317.1 - t313)) - bt315.1)))) ≥ 0 then (some (decide ((wrap64 (-(wrap64 ((wrap64 (bt317.1 - t313)) - bt315.1)))) ≤ 1))) else (some false)) else (some false)) else (if (wrap64 ((wrap64 (t314 + bt315.2)) + bt317.2)) = 0 then (if (wrap64 ((wrap64 (bt317.1 - t313)) - bt315.1)) ≥ 0 then (some (decide ((wrap64 ((wrap64 (bt317.1 - t313)) - bt315.1)) ≤ 1))) else (some false)) else (some false))))) = some r := H
                          have A75 := AM A750
                          clear A750
                          replace H := Option.bind_eq_some_iff.mp H
                          obtain ⟨⟨t315, t316⟩, A760, H⟩ := H
                          replace H : ((code_Free.f kj71 a0_0 a0_1 a0_2 a0_3 a0_4 12 12).bind fun bt317 => (if a0_1 = 2 then (if (wrap64 ((wrap64 (t314 + t316)) + bt317.2)) = 0 then (if (wrap64 (-(wrap64 ((wrap64 (bt317.1 - t313)) - t315)))) ≥ 0 then (some (decide ((wrap64 (-(wrap64 ((wrap64 (bt317.1 - t313)) - t315)))) ≤ 1))) else (some false)) else (some false)) else (if (wrap64 ((wrap64 (t314 + t316)) + bt317.2)) = 0 then (if (wrap64 ((wrap64 (bt317.1 - t313)) - t315)) ≥ 0 then (some (decide ((wrap64 ((wrap64 (bt317.1 - t313)) - t315)) ≤ 1))) else (some false)) else (some false)))) = some r := H
                          have A76 := AM A760
                          clear A760
                          replace H := Option.bind_eq_some_iff.mp H
                          obtain ⟨⟨t317, t318⟩, A770, H⟩ := H
                          replace H : (if a0_1 = 2 then (if (wrap64 ((wrap64 (t314 + t316)) + t318)) = 0 then (if (wrap64 (-(wrap64 ((wrap64 (t317 - t313)) - t315)))) ≥ 0 then (some (decide ((wrap64 (-(wrap64 ((wrap64 (t317 - t313)) - t315)))) ≤ 1))) else (some false)) else (some false)) else (if (wrap64 ((wrap64 (t314 + t316)) + t318)) = 0 then (if (wrap64 ((wrap64 (t317 - t313)) - t315)) ≥ 0 then (some (decide ((wrap64 ((wrap64 (t317 - t313)) - t315)) ≤ 1))) else (some false)) else (some false))) = some r := H
                          have A77 := AM A770
                          clear A770
                          by_cases c78 : a0_1 = 2
                          rotate_left
                          · rw [if_neg c78] at H
                            have c78b0 : (a0_1 == 2) = false := beq_eq_false_iff_ne.mpr c78
                            have c78b1 : (a0_1 != 2) = true := bne_iff_ne.mpr c78
                            by_cases c90 : (wrap64 ((wrap64 (t314 + t316)) + t318)) = 0
                            rotate_left
                            · rw [if_neg c90] at H
                              have c90b0 : ((wrap64 ((wrap64 (t314 + t316)) + t318)) == 0) = false := beq_eq_false_iff_ne.mpr c90
                              have c90b1 : ((wrap64 ((wrap64 (t314 + t316)) + t318)) != 0) = true := bne_iff_ne.mpr c90
                              exact absurd (Option.some.inj H) (by rw [HRT.out]; decide)
                            rw [if_pos c90] at H
                            have c90b0 : ((wrap64 ((wrap64 (t314 + t316)) + t318)) == 0) = true := beq_iff_eq.mpr c90
                            have c90b1 : ((wrap64 ((wrap64 (t314 + t316)) + t318)) != 0) = false := bne_eq_false_iff_eq.mpr c90
                            clear c90
                            by_cases c91 : (wrap64 ((wrap64 (t317 - t313)) - t315)) ≥ 0
                            rotate_left
                            · rw [if_neg c91] at H
                              have c91b0 : decide (0 ≤ (wrap64 ((wrap64 (t317 - t313)) - t315))) = false := decide_eq_false c91
                              clear c91
                              exact absurd (Option.some.inj H) (by rw [HRT.out]; decide)
                            rw [if_pos c91] at H
                            have c91b0 : decide (0 ≤ (wrap64 ((wrap64 (t317 - t313)) - t315))) = true := decide_eq_true c91
                            clear c91
                            obtain rfl := Option.some.inj H
                            have hnb92 := NB278_285.out
                            have hnc92 := NB285_278.out
                            have hnb93 := NB278_312.out
                            have hnc93 := NB312_278.out
                            obtain ⟨_, _, _, _, _, _, _, _, _, _⟩ := bX5 BK278.out
                            go_wp2_with (first | ((with_reducible refine gC (f := 15) rfl ?_); refine gL (some 130) rfl rfl Tryd.func15 (by kernel_rfl) rfl #[.agg #[.int .i64 a0_0, .int .i64 a0_1, .int .i64 a0_2, .int .i64 a0_3, .bool a0_4], .int .i64 a2, .int .i64 12] rfl (by (try simp only [List.map_toArray, List.map_cons, List.map_nil]); first | done | rfl | (simp only [List.length_drop, List.length_take]; rfl)) ?_; (with_reducible refine (code_Free.calls kj71 a0_0 a0_1 a0_2 a0_3 a0_4 a2 12 t313 t314 _ A75.out).mono ?_); rintro e w95 ⟨rfl, hb⟩; refine ⟨_, rfl, ?_⟩; have n0_ := AM (kB (g := gb278) (o := .cells #[.int .i64 a0_0, .int .i64 a0_1, .int .i64 a0_2, .int .i64 a0_3, .bool a0_4] 23 (0, 0)) (kW BK278) hb); have n1_ := AM (kB (g := gb285) (o := .cells #[.int .i64 t279, .int .i64 t280, .int .i64 t281, .int .i64 t282, .bool t283] 23 (0, 0)) (kW BK285) hb); have n2_ := AM (kB (g := gb312) (o := .cells #[.int .i64 t306, .int .i64 t307, .int .i64 t308, .int .i64 t309, .bool t310] 23 (0, 0)) (kW BK312) hb); have n3_ := AM (bT bQ hb); clear BK278; clear BK285; clear BK312; clear HB; have BK278 := n0_; have BK285 := n1_; have BK312 := n2_; have HB := n3_; clear n0_ n1_ n2_ n3_; (try clear hb); (try clear hb2); (try clear hk); (try clear hi); obtain ⟨_, _, _, _, _, _, _, _, _, _⟩ := bX5 BK278.out) | ((with_reducible refine gC (f := 15) rfl ?_); refine gL (some 137) rfl rfl Tryd.func15 (by kernel_rfl) rfl #[.agg #[.int .i64 a0_0, .int .i64 a0_1, .int .i64 a0_2, .int .i64 a0_3, .bool a0_4], .int .i64 (wrap64 (12 - a2)), .int .i64 12] rfl (by (try simp only [List.map_toArray, List.map_cons, List.map_nil]); first | done | rfl | (simp only [List.length_drop, List.length_take]; rfl)) ?_; (with_reducible refine (code_Free.calls kj71 a0_0 a0_1 a0_2 a0_3 a0_4 (wrap64 (12 - a2)) 12 t315 t316 _ A76.out).mono ?_); rintro e w97 ⟨rfl, hb⟩; refine ⟨_, rfl, ?_⟩; have n0_ := AM (kB (g := gb278) (o := .cells #[.int .i64 a0_0, .int .i64 a0_1, .int .i64 a0_2, .int .i64 a0_3, .bool a0_4] 23 (0, 0)) (kW BK278) hb); have n1_ := AM (kB (g := gb285) (o := .cells #[.int .i64 t279, .int .i64 t280, .int .i64 t281, .int .i64 t282, .bool t283] 23 (0, 0)) (kW BK285) hb); have n2_ := AM (kB (g := gb312) (o := .cells #[.int .i64 t306, .int .i64 t307, .int .i64 t308, .int .i64 t309, .bool t310] 23 (0, 0)) (kW BK312) hb); have n3_ := AM (bT bQ hb); clear BK278; clear BK285; clear BK312; clear HB; have BK278 := n0_; have BK285 := n1_; have BK312 := n2_; have HB := n3_; clear n0_ n1_ n2_ n3_; (try clear hb); (try clear hb2); (try clear hk); (try clear hi); obtain ⟨_, _, _, _, _, _, _, _, _, _⟩ := bX5 BK278.out) | ((with_reducible refine gC (f := 15) rfl ?_); refine gL (some 142) rfl rfl Tryd.func15 (by kernel_rfl) rfl #[.agg #[.int .i64 a0_0, .int .i64 a0_1, .int .i64 a0_2, .int .i64 a0_3, .bool a0_4], .int .i64 12, .int .i64 12] rfl (by (try simp only [List.map_toArray, List.map_cons, List.map_nil]); first | done | rfl | (simp only [List.length_drop, List.length_take]; rfl)) ?_; (with_reducible refine (code_Free.calls kj71 a0_0 a0_1 a0_2 a0_3 a0_4 12 12 t317 t318 _ A77.out).mono ?_); rintro e w99 ⟨rfl, hb⟩; refine ⟨_, rfl, ?_⟩; have n0_ := AM (kB (g := gb278) (o := .cells #[.int .i64 a0_0, .int .i64 a0_1, .int .i64 a0_2, .int .i64 a0_3, .bool a0_4] 23 (0, 0)) (kW BK278) hb); have n1_ := AM (kB (g := gb285) (o := .cells #[.int .i64 t279, .int .i64 t280, .int .i64 t281, .int .i64 t282, .bool t283] 23 (0, 0)) (kW BK285) hb); have n2_ := AM (kB (g := gb312) (o := .cells #[.int .i64 t306, .int .i64 t307, .int .i64 t308, .int .i64 t309, .bool t310] 23 (0, 0)) (kW BK312) hb); have n3_ := AM (bT bQ hb); clear BK278; clear BK285; clear BK312; clear HB; have BK278 := n0_; have BK285 := n1_; have BK312 := n2_; have HB := n3_; clear n0_ n1_ n2_ n3_; (try clear hb); (try clear hb2); (try clear hk); (try clear hi); obtain ⟨_, _, _, _, _, _, _, _, _, _⟩ := bX5 BK278.out))
                            go_ret
                            exact ⟨by first | rfl | (simp [errW_none, errW_some] <;> rfl) | (simp [*, errW_none, errW_some] <;> rfl), by repeat (first | (with_reducible first | exact HB.out | apply bA | apply bD | apply b1 | refine bS ?_ GE278.out | refine bS ?_ GE285.out | refine bS ?_ GE312.out) | exact HB.out)⟩
                          rw [if_pos c78] at H
                          have c78b0 : (a0_1 == 2) = true := beq_iff_eq.mpr c78
                          have c78b1 : (a0_1 != 2) = false := bne_eq_false_iff_eq.mpr c78
                          clear c78
                          by_cases c79 : (wrap64 ((wrap64 (t314 + t316)) + t318)) = 0
                          rotate_left
                          · rw [if_neg c79] at H
                            have c79b0 : ((wrap64 ((wrap64 (t314 + t316)) + t318)) == 0) = false := beq_eq_false_iff_ne.mpr c79
                            have c79b1 : ((wrap64 ((wrap64 (t314 + t316)) + t318)) != 0) = true := bne_iff_ne.mpr c79
                            exact absurd (Option.some.inj H) (by rw [HRT.out]; decide)
                          rw [if_pos c79] at H
                          have c79b0 : ((wrap64 ((wrap64 (t314 + t316)) + t318)) == 0) = true := beq_iff_eq.mpr c79
                          have c79b1 : ((wrap64 ((wrap64 (t314 + t316)) + t318)) != 0) = false := bne_eq_false_iff_eq.mpr c79
                          clear c79
                          by_cases c80 : (wrap64 (-(wrap64 ((wrap64 (t317 - t313)) - t315)))) ≥ 0
                          rotate_left
                          · rw [if_neg c80] at H
                            have c80b0 : decide (0 ≤ (wrap64 (-(wrap64 ((wrap64 (t317 - t313)) - t315))))) = false := decide_eq_false c80
                            clear c80
                            exact absurd (Option.some.inj H) (by rw [HRT.out]; decide)
                          rw [if_pos c80] at H
                          have c80b0 : decide (0 ≤ (wrap64 (-(wrap64 ((wrap64 (t317 - t313)) - t315))))) = true := decide_eq_true c80
                          clear c80
                          obtain rfl := Option.some.inj H
                          have hnb81 := NB278_285.out
                          have hnc81 := NB285_278.out
                          have hnb82 := NB278_312.out
                          have hnc82 := NB312_278.out
                          obtain ⟨_, _, _, _, _, _, _, _, _, _⟩ := bX5 BK278.out
                          go_wp2_with (first | ((with_reducible refine gC (f := 15) rfl ?_); refine gL (some 130) rfl rfl Tryd.func15 (by kernel_rfl) rfl #[.agg #[.int .i64 a0_0, .int .i64 a0_1, .int .i64 a0_2, .int .i64 a0_3, .bool a0_4], .int .i64 a2, .int .i64 12] rfl (by (try simp only [List.map_toArray, List.map_cons, List.map_nil]); first | done | rfl | (simp only [List.length_drop, List.length_take]; rfl)) ?_; (with_reducible refine (code_Free.calls kj71 a0_0 a0_1 a0_2 a0_3 a0_4 a2 12 t313 t314 _ A75.out).mono ?_); rintro e w84 ⟨rfl, hb⟩; refine ⟨_, rfl, ?_⟩; have n0_ := AM (kB (g := gb278) (o := .cells #[.int .i64 a0_0, .int .i64 a0_1, .int .i64 a0_2, .int .i64 a0_3, .bool a0_4] 23 (0, 0)) (kW BK278) hb); have n1_ := AM (kB (g := gb285) (o := .cells #[.int .i64 t279, .int .i64 t280, .int .i64 t281, .int .i64 t282, .bool t283] 23 (0, 0)) (kW BK285) hb); have n2_ := AM (kB (g := gb312) (o := .cells #[.int .i64 t306, .int .i64 t307, .int .i64 t308, .int .i64 t309, .bool t310] 23 (0, 0)) (kW BK312) hb); have n3_ := AM (bT bQ hb); clear BK278; clear BK285; clear BK312; clear HB; have BK278 := n0_; have BK285 := n1_; have BK312 := n2_; have HB := n3_; clear n0_ n1_ n2_ n3_; (try clear hb); (try clear hb2); (try clear hk); (try clear hi); obtain ⟨_, _, _, _, _, _, _, _, _, _⟩ := bX5 BK278.out) | ((with_reducible refine gC (f := 15) rfl ?_); refine gL (some 137) rfl rfl Tryd.func15 (by kernel_rfl) rfl #[.agg #[.int .i64 a0_0, .int .i64 a0_1, .int .i64 a0_2, .int .i64 a0_3, .bool a0_4], .int .i64 (wrap64 (12 - a2)), .int .i64 12] rfl (by (try simp only [List.map_toArray, List.map_cons, List.map_nil]); first | done | rfl | (simp only [List.length_drop, List.length_take]; rfl)) ?_; (with_reducible refine (code_Free.calls kj71 a0_0 a0_1 a0_2 a0_3 a0_4 (wrap64 (12 - a2)) 12 t315 t316 _ A76.out).mono ?_); rintro e w86 ⟨rfl, hb⟩; refine ⟨_, rfl, ?_⟩; have n0_ := AM (kB (g := gb278) (o := .cells #[.int .i64 a0_0, .int .i64 a0_1, .int .i64 a0_2, .int .i64 a0_3, .bool a0_4] 23 (0, 0)) (kW BK278) hb); have n1_ := AM (kB (g := gb285) (o := .cells #[.int .i64 t279, .int .i64 t280, .int .i64 t281, .int .i64 t282, .bool t283] 23 (0, 0)) (kW BK285) hb); have n2_ := AM (kB (g := gb312) (o := .cells #[.int .i64 t306, .int .i64 t307, .int .i64 t308, .int .i64 t309, .bool t310] 23 (0, 0)) (kW BK312) hb); have n3_ := AM (bT bQ hb); clear BK278; clear BK285; clear BK312; clear HB; have BK278 := n0_; have BK285 := n1_; have BK312 := n2_; have HB := n3_; clear n0_ n1_ n2_ n3_; (try clear hb); (try clear hb2); (try clear hk); (try clear hi); obtain ⟨_, _, _, _, _, _, _, _, _, _⟩ := bX5 BK278.out) | ((with_reducible refine gC (f := 15) rfl ?_); refine gL (some 142) rfl rfl Tryd.func15 (by kernel_rfl) rfl #[.agg #[.int .i64 a0_0, .int .i64 a0_1, .int .i64 a0_2, .int .i64 a0_3, .bool a0_4], .int .i64 12, .int .i64 12] rfl (by (try simp only [List.map_toArray, List.map_cons, List.map_nil]); first | done | rfl | (simp only [List.length_drop, List.length_take]; rfl)) ?_; (with_reducible refine (code_Free.calls kj71 a0_0 a0_1 a0_2 a0_3 a0_4 12 12 t317 t318 _ A77.out).mono ?_); rintro e w88 ⟨rfl, hb⟩; refine ⟨_, rfl, ?_⟩; have n0_ := AM (kB (g := gb278) (o := .cells #[.int .i64 a0_0, .int .i64 a0_1, .int .i64 a0_2, .int .i64 a0_3, .bool a0_4] 23 (0, 0)) (kW BK278) hb); have n1_ := AM (kB (g := gb285) (o := .cells #[.int .i64 t279, .int .i64 t280, .int .i64 t281, .int .i64 t282, .bool t283] 23 (0, 0)) (kW BK285) hb); have n2_ := AM (kB (g := gb312) (o := .cells #[.int .i64 t306, .int .i64 t307, .int .i64 t308, .int .i64 t309, .bool t310] 23 (0, 0)) (kW BK312) hb); have n3_ := AM (bT bQ hb); clear BK278; clear BK285; clear BK312; clear HB; have BK278 := n0_; have BK285 := n1_; have BK312 := n2_; have HB := n3_; clear n0_ n1_ n2_ n3_; (try clear hb); (try clear hb2); (try clear hk); (try clear hi); obtain ⟨_, _, _, _, _, _, _, _, _, _⟩ := bX5 BK278.out))
                          go_ret
                          exact ⟨by first | rfl | (simp [errW_none, errW_some] <;> rfl) | (simp [*, errW_none, errW_some] <;> rfl), by repeat (first | (with_reducible first | exact HB.out | apply bA | apply bD | apply b1 | refine bS ?_ GE278.out | refine bS ?_ GE285.out | refine bS ?_ GE312.out) | exact HB.out)⟩
end Go.Proofs.YtodijkdmcjnpkaaDoor.K
