-- by a program of this session, over the kit's printer
import Derived.Test.YtodijkdmcjnpkaaDoorKx0
import Derived.Test.YtodijkdmcjnpkaaDoorKPatch
import Derived.Test.YtodijkdmcjnpkaaDoorKx1
import Derived.Test.YtodijkdmcjnpkaaDoorKx4
import Derived.Test.YtodijkdmcjnpkaaDoorKx6
namespace Go.Proofs.YtodijkdmcjnpkaaDoor.K
open Go.RowKit Go.Proofs.YtodijkdmcjnpkaaDoorW.PrintWords Go.Proofs.YtodijkdmcjnpkaaDoorW.PrintLast Go.Proofs.YtodijkdmcjnpkaaDoorW.PrintMore
attribute [local go_sem] max2_int min2_int max_two min_two max_three min_three max_four min_four   -- for this text's walks alone
set_option linter.unusedVariables false
set_option linter.unusedSimpArgs false

attribute [local go_sem high] eqA23
/-! ### stipendlaw08_CodeForms: function 6 -/
mutual
def stipendlaw08_CodeForms.j0 : Nat → Int → Int → ByteArray → Bool → Option (Bool)
  | 0, _, _, _, _ => none
  | k + 1, x0, x1, x2, x7 => if (x2.size : Int) > 30 then (stipendlaw08_CodeForms.j1 k x0 x1 x2 x7 true) else (if x0 < 0 then (stipendlaw08_CodeForms.j1 k x0 x1 x2 x7 true) else (if x0 > 9 then (stipendlaw08_CodeForms.j1 k x0 x1 x2 x7 true) else (if x1 < 0 then (stipendlaw08_CodeForms.j1 k x0 x1 x2 x7 true) else (stipendlaw08_CodeForms.j1 k x0 x1 x2 x7 (decide (x1 > 3))))))
def stipendlaw08_CodeForms.j1 : Nat → Int → Int → ByteArray → Bool → Bool → Option (Bool)
  | 0, _, _, _, _, _ => none
  | k + 1, x0, x1, x2, x7, x41 => if x41 = true then (some true) else (if x2.size + 1 ≤ 9223372036854775807 then (if 1 + x2.size ≤ 9223372036854775807 then (if x1 = 0 then (stipendlaw08_CodeForms.j2 k x0 x1 x2 x7 (x2 ++ (⟨#[76]⟩ : ByteArray))) else (if x1 = 1 then (stipendlaw08_CodeForms.j2 k x0 x1 x2 x7 ((⟨#[75]⟩ : ByteArray) ++ x2)) else (if x1 = 2 then (stipendlaw08_CodeForms.j2 k x0 x1 x2 x7 ((⟨#[68]⟩ : ByteArray) ++ x2)) else (if 0 ≤ x1 then (if x1 < 4 then (stipendlaw08_CodeForms.j2 k x0 x1 x2 x7 (⟨#[78, 84]⟩ : ByteArray)) else (none)) else (none))))) else (none)) else (none))
def stipendlaw08_CodeForms.j2 : Nat → Int → Int → ByteArray → Bool → ByteArray → Option (Bool)
  | 0, _, _, _, _, _ => none
  | k + 1, x0, x1, x2, x7, x8 => if x0 > 0 then ((some (([(wrap64 (79 + x0)) % 256] : List Int) : List Int)).bind fun y237 => (if (strOfNums y237).size + x8.size ≤ 9223372036854775807 then (stipendlaw08_CodeForms.j3 k x0 x1 x2 x7 ((strOfNums y237) ++ x8)) else (none))) else (stipendlaw08_CodeForms.j3 k x0 x1 x2 x7 x8)
def stipendlaw08_CodeForms.j3 : Nat → Int → Int → ByteArray → Bool → ByteArray → Option (Bool)
  | 0, _, _, _, _, _ => none
  | k + 1, x0, x1, x2, x7, x8 => if x7 = true then (if x8.size + 1 ≤ 9223372036854775807 then (stipendlaw08_CodeForms.j4 k x0 x1 x2 x7 (x8 ++ (⟨#[88]⟩ : ByteArray))) else (none)) else (stipendlaw08_CodeForms.j4 k x0 x1 x2 x7 x8)
def stipendlaw08_CodeForms.j4 : Nat → Int → Int → ByteArray → Bool → ByteArray → Option (Bool)
  | 0, _, _, _, _, _ => none
  | k + 1, x0, x1, x2, x7, x8 => if x2.toList = ([] : List UInt8) then (stipendlaw08_CodeForms.j5 k x0 x1 x2 x7 x8 0 false) else (if (x2.size : Int) ≤ 6 then (if (x2.size : Int) = 1 then (stipendlaw08_CodeForms.j5 k x0 x1 x2 x7 x8 0 true) else (if 0 < (x2.size : Int) then (stipendlaw08_CodeForms.j5 k x0 x1 x2 x7 x8 0 ((bt x2 0) != 48)) else (none))) else (stipendlaw08_CodeForms.j5 k x0 x1 x2 x7 x8 0 false))
def stipendlaw08_CodeForms.j5 : Nat → Int → Int → ByteArray → Bool → ByteArray → Int → Bool → Option (Bool)
  | 0, _, _, _, _, _, _, _ => none
  | k + 1, x0, x1, x2, x7, x8, x9, x10 => stipendlaw08_CodeForms.l0 k x0 x1 x2 x7 x8 x9 x10 (x2.size : Int) 0
def stipendlaw08_CodeForms.l0 : Nat → Int → Int → ByteArray → Bool → ByteArray → Int → Bool → Int → Int → Option (Bool)
  | 0, _, _, _, _, _, _, _, _, _ => none
  | k + 1, x0, x1, x2, x7, x8, x9, x10, x81, x82 => if x82 < x81 then (if 0 ≤ x82 then (if x82 < (x2.size : Int) then (if (bt x2 x82) < 48 then (stipendlaw08_CodeForms.j7 k x0 x1 x2 x7 x8 x9 x10 x82 x81 x82 true) else (stipendlaw08_CodeForms.j7 k x0 x1 x2 x7 x8 x9 x10 x82 x81 x82 (decide ((bt x2 x82) > 57)))) else (none)) else (none)) else (if x1 = 0 then (stipendlaw08_CodeForms.j8 k x0 x2 x8 x10 0 x0 1 (wrap64 (1000 * x9)) 0 x7) else (if x1 = 1 then (if x10 = true then (if x9 = 0 then (stipendlaw08_CodeForms.j8 k x0 x2 x8 x10 80 x0 2 (wrap64 (1000 * x9)) 0 x7) else (stipendlaw08_CodeForms.j8 k x0 x2 x8 x10 0 x0 2 (wrap64 (1000 * x9)) 0 x7)) else (stipendlaw08_CodeForms.j8 k x0 x2 x8 x10 0 x0 2 (wrap64 (1000 * x9)) 0 x7)) else (if x1 = 2 then (if x10 = true then (if x9 > 7 then (stipendlaw08_CodeForms.j8 k x0 x2 x8 x10 80 x0 3 0 x9 x7) else (stipendlaw08_CodeForms.j8 k x0 x2 x8 x10 0 x0 3 0 x9 x7)) else (stipendlaw08_CodeForms.j8 k x0 x2 x8 x10 0 x0 3 0 x9 x7)) else (stipendlaw08_CodeForms.j8 k x0 x2 x8 true 0 x0 4 0 0 x7))))
def stipendlaw08_CodeForms.j7 : Nat → Int → Int → ByteArray → Bool → ByteArray → Int → Bool → Int → Int → Int → Bool → Option (Bool)
  | 0, _, _, _, _, _, _, _, _, _, _, _ => none
  | k + 1, x0, x1, x2, x7, x8, x9, x10, x11, x81, x82, x94 => if x94 = true then (stipendlaw08_CodeForms.l0 k x0 x1 x2 x7 x8 x9 false x81 (wrap64 (x82 + 1))) else (if x11 < 6 then (if 0 ≤ x11 then (if x11 < (x2.size : Int) then (stipendlaw08_CodeForms.l0 k x0 x1 x2 x7 x8 (wrap64 ((wrap64 (10 * x9)) + (((bt x2 x11) - 48) % 256))) x10 x81 (wrap64 (x82 + 1))) else (none)) else (none)) else (stipendlaw08_CodeForms.l0 k x0 x1 x2 x7 x8 x9 x10 x81 (wrap64 (x82 + 1))))
def stipendlaw08_CodeForms.j8 : Nat → Int → ByteArray → ByteArray → Bool → Int → Int → Int → Int → Int → Bool → Option (Bool)
  | 0, _, _, _, _, _, _, _, _, _, _ => none
  | k + 1, x0, x2, x8, x10, x13, x241000, x241001, x241002, x241003, x241004 => if x10 = true then (stipendlaw08_CodeForms.j9 k x2 x8 x13 (decide (x0 > 7)) x241000 x241001 x241002 x241003 x241004) else (stipendlaw08_CodeForms.j9 k x2 x8 x13 true x241000 x241001 x241002 x241003 x241004)
def stipendlaw08_CodeForms.j9 : Nat → ByteArray → ByteArray → Int → Bool → Int → Int → Int → Int → Bool → Option (Bool)
  | 0, _, _, _, _, _, _, _, _, _ => none
  | k + 1, x2, x8, x13, x143, x241000, x241001, x241002, x241003, x241004 => if x143 = true then (stipendlaw08_CodeForms.j10 k x2 x8 5 x241000 x241001 x241002 x241003 x241004) else (stipendlaw08_CodeForms.j10 k x2 x8 x13 x241000 x241001 x241002 x241003 x241004)
def stipendlaw08_CodeForms.j10 : Nat → ByteArray → ByteArray → Int → Int → Int → Int → Int → Bool → Option (Bool)
  | 0, _, _, _, _, _, _, _, _ => none
  | k + 1, x2, x8, x13, x241000, x241001, x241002, x241003, x241004 => stipendlaw08_CodeForms.l1 k x2 x8 x13 (x2.size : Int) 0 x241000 x241001 x241002 x241003 x241004
def stipendlaw08_CodeForms.l1 : Nat → ByteArray → ByteArray → Int → Int → Int → Int → Int → Int → Int → Bool → Option (Bool)
  | 0, _, _, _, _, _, _, _, _, _, _ => none
  | k + 1, x2, x8, x13, x145, x146, x241000, x241001, x241002, x241003, x241004 => if x146 < x145 then (if 0 ≤ x146 then (if x146 < (x2.size : Int) then (if (bt x2 x146) ≥ 65 then (if (bt x2 x146) ≤ 90 then (some true) else (stipendlaw08_CodeForms.l1 k x2 x8 x13 x145 (wrap64 (x146 + 1)) x241000 x241001 x241002 x241003 x241004)) else (stipendlaw08_CodeForms.l1 k x2 x8 x13 x145 (wrap64 (x146 + 1)) x241000 x241001 x241002 x241003 x241004)) else (none)) else (none)) else ((code_Parse.f k x8).bind fun bt241 => (if x13 = 0 then (if bt241.2.2.2.2.2 = 0 then (some (bt241.1 == x241000 && (bt241.2.1 == x241001 && (bt241.2.2.1 == x241002 && (bt241.2.2.2.1 == x241003 && (bt241.2.2.2.2.1 == x241004)))))) else (some false)) else (if bt241.2.2.2.2.2 = x13 then (some (bt241.1 == 0 && (bt241.2.1 == 0 && (bt241.2.2.1 == 0 && (bt241.2.2.2.1 == 0 && (!bt241.2.2.2.2.1)))))) else (some false))))
end
def stipendlaw08_CodeForms.f (k : Nat) (a0 : Int) (a1 : Int) (a2 : ByteArray) : Option (Bool) := (stipendlaw08_codes.f).bind fun t236 => (if t236 = true then (if ((a2.size : Int) % 2) = 1 then (stipendlaw08_CodeForms.j0 k a0 a1 a2 true) else (stipendlaw08_CodeForms.j0 k a0 a1 a2 false)) else (some false))
set_option maxHeartbeats 60000000 in
set_option maxRecDepth 100000 in
theorem stipendlaw08_CodeForms.calls (k : Nat) (a0 : Int) (a1 : Int) (a2 : ByteArray) (r : Bool) (w : World) (hrt : r = true) (h : stipendlaw08_CodeForms.f k a0 a1 a2 = some r) (htb : TB w) :
    Calls Tryd.prog 6 #[.int .i64 a0, .int .i64 a1, .string a2] w fun e w' => e = .returned (.bool r) ∧ Below w.heap.size w w' := by
  have HRT := AM hrt
  clear hrt
  have hu23 := Tryd.underlying23
  have HB := AM (Below.refl w.heap.size w)
  have H : ((stipendlaw08_codes.f).bind fun t236 => (if t236 = true then (if ((a2.size : Int) % 2) = 1 then (stipendlaw08_CodeForms.j0 k a0 a1 a2 true) else (stipendlaw08_CodeForms.j0 k a0 a1 a2 false)) else (some false))) = some r := h
  clear h
  replace H := Option.bind_eq_some_iff.mp H
  obtain ⟨t236, A40, H⟩ := H
  replace H : (if t236 = true then (if ((a2.size : Int) % 2) = 1 then (stipendlaw08_CodeForms.j0 k a0 a1 a2 true) else (stipendlaw08_CodeForms.j0 k a0 a1 a2 false)) else (some false)) = some r := H
  have A4 := AM A40
  clear A40
  by_cases c5 : t236 = true
  rotate_left
  · replace c5 := Bool.eq_false_iff.mpr c5
    subst c5
    have H1 : (some false) = some r := by rw [if_neg (show ¬ (false = true) by decide)] at H; exact H
    clear H
    have H := H1
    clear H1
    exact absurd (Option.some.inj H) (by rw [HRT.out]; decide)

  subst c5
  have H1 : (if ((a2.size : Int) % 2) = 1 then (stipendlaw08_CodeForms.j0 k a0 a1 a2 true) else (stipendlaw08_CodeForms.j0 k a0 a1 a2 false)) = some r := by rw [if_pos rfl] at H; exact H
  clear H
  have H := H1
  clear H1
  have HC6 := AM H
  clear H
  go_enter Tryd.func6, Tryd.ntmps6
  go_upto_region 3 with (first | (go_at_call 16; (with_reducible refine (stipendlaw08_codes.calls  true _ A4.out (tQ htb)).mono ?_); rintro e w7 ⟨rfl, hb⟩; have n0_ := AM (bT bQ hb); clear HB; have HB := n0_; clear n0_; (try clear hb); (try clear hb2); (try clear hk); (try clear hi)))
  repeat (go_quiet (first | (go_at_call 16; (with_reducible refine (stipendlaw08_codes.calls  true _ A4.out (tQ htb)).mono ?_); rintro e w7 ⟨rfl, hb⟩; have n0_ := AM (bT bQ hb); clear HB; have HB := n0_; clear n0_; (try clear hb); (try clear hb2); (try clear hk); (try clear hi))); go_upto_region 3 with (first | (go_at_call 16; (with_reducible refine (stipendlaw08_codes.calls  true _ A4.out (tQ htb)).mono ?_); rintro e w7 ⟨rfl, hb⟩; have n0_ := AM (bT bQ hb); clear HB; have HB := n0_; clear n0_; (try clear hb); (try clear hb2); (try clear hk); (try clear hi))))
  (try simp only [Act.put, List.setIfInBounds_toArray, List.set_cons_zero, List.set_cons_succ])
  refine Go.Proofs.YtodijkdmcjnpkaaDoor.KPatch.cutU [none, none, none, none, none, none, none, some 7, none, none, none, none, none, none, none, none, none, some 17, some 18, some 19, some 20, some 21, some 22, some 23, some 24, some 25, some 26, some 27, some 28, some 29, some 30, some 31, some 32, some 33, some 34, some 35, some 36, some 37, some 38, some 39, some 40, some 41, some 42, some 43, some 44, some 45, some 46, some 47, some 48, some 49, some 50, some 51, some 52, some 53, some 54, some 55, some 56, some 57, some 58, some 59, some 60, some 61, some 62, some 63, some 64, some 65, some 66, some 67, some 68, some 69, some 70, some 71, some 72, some 73, some 74, some 75, some 76, some 77, some 78, some 79, some 80, none, none, some 83, some 84, some 85, some 86, some 87, some 88, some 89, some 90, some 91, some 92, some 93, some 94, some 95, some 96, some 97, some 98, some 99, some 100, some 101, some 102, some 103, some 104, some 105, some 106, some 107, some 108, none, some 110, none, some 112, some 113, some 114, some 115, some 116, none, some 118, some 119, some 120, some 121, some 122, some 123, some 124, some 125, some 126, some 127, none, some 129, some 130, some 131, some 132, some 133, some 134, some 135, some 136, some 137, some 138, some 139, some 140, some 141, some 142, some 143, some 144, none, none, some 147, some 148, some 149, some 150, some 151, some 152, some 153, some 154, some 155, some 156, some 157, some 158, some 159, some 160, some 161, some 162, some 163, some 164, some 165, some 166, some 167, some 168, some 169, some 170, some 171, some 172, some 173, some 174, some 175, some 176, some 177, some 178, some 179, some 180, some 181] (fun (u_ : Nat → Value) (wc : World) => (fun (v7 : Value) wc => ∃ (kq : Nat) (x7_5 : Bool), v7 = .bool x7_5 ∧ Aside0 (stipendlaw08_CodeForms.j0 kq a0 a1 a2 x7_5 = some r) ∧ Aside0 (kq ≤ k) ∧ Aside0 (Below w.heap.size w wc)) (u_ 7) wc) ?rest1 ?first1
  case first1 =>
    intro J_ K_ hJ_ hK_
    have H := HC6.out
    clear HC6
    by_cases c8 : ((a2.size : Int) % 2) = 1
    rotate_left
    · rw [if_neg c8] at H
      have c8b0 : (((a2.size : Int) % 2) == 1) = false := beq_eq_false_iff_ne.mpr c8
      have c8b1 : (((a2.size : Int) % 2) != 1) = true := bne_iff_ne.mpr c8
      (first | rw [c8b0] | (simp only [i64_w, i32_w]; rw [c8b0]) | skip)
      have H' := AM H
      clear H
      go_wp2
      repeat (go_quiet (fail); try go_wp2)
      refine Met.intro ?_
      refine Go.Proofs.YtodijkdmcjnpkaaDoor.KPatch.meetU (by assumption) ?rel2 ?keep2
      case keep2 => repeat (first | exact rfl | refine ⟨rfl, ?_⟩)
      case rel2 => exact ⟨_, (false), (by first | rfl | (simp; done) | (simp [*]; done)), H', ⟨by first | omega | exact Nat.le_refl _⟩, ⟨by repeat (first | (with_reducible first | exact HB.out | apply bA | apply bD | apply b1) | exact HB.out)⟩⟩
    rw [if_pos c8] at H
    have c8b0 : (((a2.size : Int) % 2) == 1) = true := beq_iff_eq.mpr c8
    have c8b1 : (((a2.size : Int) % 2) != 1) = false := bne_eq_false_iff_eq.mpr c8
    clear c8
    (first | rw [c8b0] | (simp only [i64_w, i32_w]; rw [c8b0]) | skip)
    have H' := AM H
    clear H
    go_wp2
    repeat (go_quiet (fail); try go_wp2)
    refine Met.intro ?_
    refine Go.Proofs.YtodijkdmcjnpkaaDoor.KPatch.meetU (by assumption) ?rel3 ?keep3
    case keep3 => repeat (first | exact rfl | refine ⟨rfl, ?_⟩)
    case rel3 => exact ⟨_, (true), (by first | rfl | (simp; done) | (simp [*]; done)), H', ⟨by first | omega | exact Nat.le_refl _⟩, ⟨by repeat (first | (with_reducible first | exact HB.out | apply bA | apply bD | apply b1) | exact HB.out)⟩⟩
  case rest1 =>
    intro u_ wc hcut
    dsimp only [Go.Proofs.YtodijkdmcjnpkaaDoor.KPatch.patch]
    generalize u_ 7 = u7 at hcut ⊢
    clear HC6
    (try clear p2); (try clear c5); (try clear c6); (try clear c8); (try clear c8b0); (try clear c8b1)
    obtain ⟨kq, x7_5, rfl, HA, HJ5, HB⟩ := hcut
    cases kq with
    | zero => exact absurd HA.out (by simp [stipendlaw08_CodeForms.j0])
    | succ kj5 =>
      have H := HA.out
      clear HA
      simp only [stipendlaw08_CodeForms.j0] at H
      have HC9 := AM H
      clear H
      go_upto_region 4 with (fail)
      repeat (go_quiet (fail); go_upto_region 4 with (fail))
      refine Go.Proofs.YtodijkdmcjnpkaaDoor.KPatch.cutU [none, none, none, none, none, none, none, none, none, none, none, none, none, none, none, none, none, some 17, some 18, some 19, some 20, some 21, some 22, some 23, some 24, some 25, some 26, some 27, some 28, some 29, some 30, some 31, some 32, some 33, some 34, some 35, some 36, some 37, some 38, some 39, some 40, some 41, some 42, some 43, some 44, some 45, some 46, some 47, some 48, some 49, some 50, some 51, some 52, some 53, some 54, some 55, some 56, some 57, some 58, some 59, some 60, some 61, some 62, some 63, some 64, some 65, some 66, some 67, some 68, some 69, some 70, some 71, some 72, some 73, some 74, some 75, some 76, some 77, some 78, some 79, some 80, none, none, some 83, some 84, some 85, some 86, some 87, some 88, some 89, some 90, some 91, some 92, some 93, some 94, some 95, some 96, some 97, some 98, some 99, some 100, some 101, some 102, some 103, some 104, some 105, some 106, some 107, some 108, none, some 110, none, some 112, some 113, some 114, some 115, some 116, none, some 118, some 119, some 120, some 121, some 122, some 123, some 124, some 125, some 126, some 127, none, some 129, some 130, some 131, some 132, some 133, some 134, some 135, some 136, some 137, some 138, some 139, some 140, some 141, some 142, some 143, some 144, none, none, some 147, some 148, some 149, some 150, some 151, some 152, some 153, some 154, some 155, some 156, some 157, some 158, some 159, some 160, some 161, some 162, some 163, some 164, some 165, some 166, some 167, some 168, some 169, some 170, some 171, some 172, some 173, some 174, some 175, some 176, some 177, some 178, some 179, some 180, some 181] (fun (u_ : Nat → Value) (wc : World) => (fun (v41 : Value) wc => ∃ (kq : Nat) (x41_8 : Bool), v41 = .bool x41_8 ∧ Aside0 (stipendlaw08_CodeForms.j1 kq a0 a1 a2 x7_5 x41_8 = some r) ∧ Aside0 (kq ≤ kj5) ∧ Aside0 (Below w.heap.size w wc)) (u_ 41) wc) ?rest4 ?first4
      case first4 =>
        intro J_ K_ hJ_ hK_
        have H := HC9.out
        clear HC9
        by_cases c10 : (a2.size : Int) > 30
        · rw [if_pos c10] at H
          have c10b0 : decide (30 < (a2.size : Int)) = true := decide_eq_true c10
          have c10b1 : decide (30 < a2.size) = true := decide_eq_true (by omega)
          clear c10
          (first | rw [c10b0] | (simp only [i64_w, i32_w]; rw [c10b0]) | skip)
          have H' := AM H
          clear H
          go_wp2
          repeat (go_quiet (fail); try go_wp2)
          refine Met.intro ?_
          refine Go.Proofs.YtodijkdmcjnpkaaDoor.KPatch.meetU (by assumption) ?rel5 ?keep5
          case keep5 => repeat (first | exact rfl | refine ⟨rfl, ?_⟩)
          case rel5 => exact ⟨_, (true), (by first | rfl | (simp; done) | (simp [*]; done)), H', ⟨by have := HJ5.out; first | omega | exact Nat.le_refl _⟩, ⟨by repeat (first | (with_reducible first | exact HB.out | apply bA | apply bD | apply b1) | exact HB.out)⟩⟩
        rw [if_neg c10] at H
        have c10b0 : decide (30 < (a2.size : Int)) = false := decide_eq_false c10
        have c10b1 : decide (30 < a2.size) = false := decide_eq_false (by omega)
        clear c10
        (first | rw [c10b0] | (simp only [i64_w, i32_w]; rw [c10b0]) | skip)
        by_cases c11 : a0 < 0
        · rw [if_pos c11] at H
          have c11b0 := decide_eq_true c11
          clear c11
          have H' := AM H
          clear H
          go_wp2
          repeat (go_quiet (fail); try go_wp2)
          refine Met.intro ?_
          refine Go.Proofs.YtodijkdmcjnpkaaDoor.KPatch.meetU (by assumption) ?rel6 ?keep6
          case keep6 => repeat (first | exact rfl | refine ⟨rfl, ?_⟩)
          case rel6 => exact ⟨_, (true), (by first | rfl | (simp; done) | (simp [*]; done)), H', ⟨by have := HJ5.out; first | omega | exact Nat.le_refl _⟩, ⟨by repeat (first | (with_reducible first | exact HB.out | apply bA | apply bD | apply b1) | exact HB.out)⟩⟩
        rw [if_neg c11] at H
        have c11b0 := decide_eq_false c11
        clear c11
        by_cases c12 : a0 > 9
        · rw [if_pos c12] at H
          have c12b0 : decide (9 < a0) = true := decide_eq_true c12
          clear c12
          have H' := AM H
          clear H
          go_wp2
          repeat (go_quiet (fail); try go_wp2)
          refine Met.intro ?_
          refine Go.Proofs.YtodijkdmcjnpkaaDoor.KPatch.meetU (by assumption) ?rel7 ?keep7
          case keep7 => repeat (first | exact rfl | refine ⟨rfl, ?_⟩)
          case rel7 => exact ⟨_, (true), (by first | rfl | (simp; done) | (simp [*]; done)), H', ⟨by have := HJ5.out; first | omega | exact Nat.le_refl _⟩, ⟨by repeat (first | (with_reducible first | exact HB.out | apply bA | apply bD | apply b1) | exact HB.out)⟩⟩
        rw [if_neg c12] at H
        have c12b0 : decide (9 < a0) = false := decide_eq_false c12
        clear c12
        by_cases c13 : a1 < 0
        · rw [if_pos c13] at H
          have c13b0 := decide_eq_true c13
          clear c13
          have H' := AM H
          clear H
          go_wp2
          repeat (go_quiet (fail); try go_wp2)
          refine Met.intro ?_
          refine Go.Proofs.YtodijkdmcjnpkaaDoor.KPatch.meetU (by assumption) ?rel8 ?keep8
          case keep8 => repeat (first | exact rfl | refine ⟨rfl, ?_⟩)
          case rel8 => exact ⟨_, (true), (by first | rfl | (simp; done) | (simp [*]; done)), H', ⟨by have := HJ5.out; first | omega | exact Nat.le_refl _⟩, ⟨by repeat (first | (with_reducible first | exact HB.out | apply bA | apply bD | apply b1) | exact HB.out)⟩⟩
        rw [if_neg c13] at H
        have c13b0 := decide_eq_false c13
        clear c13
        have H' := AM H
        clear H
        go_wp2
        repeat (go_quiet (fail); try go_wp2)
        refine Met.intro ?_
        refine Go.Proofs.YtodijkdmcjnpkaaDoor.KPatch.meetU (by assumption) ?rel9 ?keep9
        case keep9 => repeat (first | exact rfl | refine ⟨rfl, ?_⟩)
        case rel9 => exact ⟨_, (decide (a1 > 3)), (by first | rfl | (simp; done) | (simp [*]; done)), H', ⟨by have := HJ5.out; first | omega | exact Nat.le_refl _⟩, ⟨by repeat (first | (with_reducible first | exact HB.out | apply bA | apply bD | apply b1) | exact HB.out)⟩⟩
      case rest4 =>
        intro u_ wc hcut
        dsimp only [Go.Proofs.YtodijkdmcjnpkaaDoor.KPatch.patch]
        generalize u_ 41 = u41 at hcut ⊢
        clear HC9
        (try clear c1); (try clear p2); (try clear c5); (try clear c6); (try clear c8); (try clear c8b0); (try clear c8b1); (try clear c10); (try clear c10b0); (try clear c10b1); (try clear c11); (try clear c11b0); (try clear c12); (try clear c12b0); (try clear c13); (try clear c13b0); (try clear p2)
        obtain ⟨kq, x41_8, rfl, HA, HJ8, HB⟩ := hcut
        cases kq with
        | zero => exact absurd HA.out (by simp [stipendlaw08_CodeForms.j1])
        | succ kj8 =>
          have H := HA.out
          clear HA
          simp only [stipendlaw08_CodeForms.j1] at H
          by_cases c14 : x41_8 = true
          · subst c14
            have H1 : (some true) = some r := by rw [if_pos rfl] at H; exact H
            clear H
            have H := H1
            clear H1
            obtain rfl := Option.some.inj H
            go_wp2
            repeat (go_quiet (fail); try go_wp2)
            go_ret
            exact ⟨by first | rfl | (simp [errW_none, errW_some] <;> rfl) | (simp [*, errW_none, errW_some] <;> rfl), by repeat (first | (with_reducible first | exact HB.out | apply bA | apply bD | apply b1) | exact HB.out)⟩
          replace c14 := Bool.eq_false_iff.mpr c14
          subst c14
          have H1 : (if a2.size + 1 ≤ 9223372036854775807 then (if 1 + a2.size ≤ 9223372036854775807 then (if a1 = 0 then (stipendlaw08_CodeForms.j2 kj8 a0 a1 a2 x7_5 (a2 ++ (⟨#[76]⟩ : ByteArray))) else (if a1 = 1 then (stipendlaw08_CodeForms.j2 kj8 a0 a1 a2 x7_5 ((⟨#[75]⟩ : ByteArray) ++ a2)) else (if a1 = 2 then (stipendlaw08_CodeForms.j2 kj8 a0 a1 a2 x7_5 ((⟨#[68]⟩ : ByteArray) ++ a2)) else (if 0 ≤ a1 then (if a1 < 4 then (stipendlaw08_CodeForms.j2 kj8 a0 a1 a2 x7_5 (⟨#[78, 84]⟩ : ByteArray)) else (none)) else (none))))) else (none)) else (none)) = some r := by rw [if_neg (show ¬ (false = true) by decide)] at H; exact H
          clear H
          have H := H1
          clear H1
          by_cases c15 : a2.size + 1 ≤ 9223372036854775807
          rotate_left
          · rw [if_neg c15] at H
            exact absurd H (by simp)
          rw [if_pos c15] at H
          have c15b0 := eq_true c15
          have c15b1 : decide (a2.size + 1 ≤ 9223372036854775807) = true := decide_eq_true c15
          try have c15b2 : (9223372036854775807 < a2.size + 1) = False := eq_false (Nat.not_lt.2 c15)
          by_cases c16 : 1 + a2.size ≤ 9223372036854775807
          rotate_left
          · rw [if_neg c16] at H
            exact absurd H (by simp)
          rw [if_pos c16] at H
          have c16b0 := eq_true c16
          have c16b1 : decide (1 + a2.size ≤ 9223372036854775807) = true := decide_eq_true c16
          try have c16b2 : (9223372036854775807 < 1 + a2.size) = False := eq_false (Nat.not_lt.2 c16)
          have HC17 := AM H
          clear H
          go_upto_region 6 with (fail)
          repeat (go_quiet (fail); go_upto_region 6 with (fail))
          refine Go.Proofs.YtodijkdmcjnpkaaDoor.KPatch.cutU [none, none, none, none, none, none, none, none, some 8, none, none, none, none, none, none, none, none, some 17, some 18, some 19, some 20, some 21, some 22, some 23, some 24, some 25, some 26, some 27, some 28, some 29, some 30, some 31, some 32, some 33, some 34, some 35, some 36, some 37, some 38, some 39, some 40, some 41, some 42, some 43, some 44, some 45, some 46, some 47, some 48, some 49, some 50, some 51, some 52, some 53, some 54, some 55, some 56, some 57, some 58, some 59, some 60, some 61, some 62, some 63, some 64, some 65, some 66, some 67, some 68, some 69, some 70, some 71, some 72, some 73, some 74, some 75, some 76, some 77, some 78, some 79, some 80, none, none, some 83, some 84, some 85, some 86, some 87, some 88, some 89, some 90, some 91, some 92, some 93, some 94, some 95, some 96, some 97, some 98, some 99, some 100, some 101, some 102, some 103, some 104, some 105, some 106, some 107, some 108, none, some 110, none, some 112, some 113, some 114, some 115, some 116, none, some 118, some 119, some 120, some 121, some 122, some 123, some 124, some 125, some 126, some 127, none, some 129, some 130, some 131, some 132, some 133, some 134, some 135, some 136, some 137, some 138, some 139, some 140, some 141, some 142, some 143, some 144, none, none, some 147, some 148, some 149, some 150, some 151, some 152, some 153, some 154, some 155, some 156, some 157, some 158, some 159, some 160, some 161, some 162, some 163, some 164, some 165, some 166, some 167, some 168, some 169, some 170, some 171, some 172, some 173, some 174, some 175, some 176, some 177, some 178, some 179, some 180, some 181] (fun (u_ : Nat → Value) (wc : World) => (fun (v8 : Value) wc => ∃ (kq : Nat) (x8_16 : ByteArray), v8 = .string x8_16 ∧ Aside0 (stipendlaw08_CodeForms.j2 kq a0 a1 a2 x7_5 x8_16 = some r) ∧ Aside0 (kq ≤ kj8) ∧ Aside0 (Below w.heap.size w wc)) (u_ 8) wc) ?rest10 ?first10
          case first10 =>
            intro J_ K_ hJ_ hK_
            have H := HC17.out
            clear HC17
            by_cases c18 : a1 = 0
            · rw [if_pos c18] at H
              have c18b0 : (a1 == 0) = true := beq_iff_eq.mpr c18
              have c18b1 : (a1 != 0) = false := bne_eq_false_iff_eq.mpr c18
              subst c18
              have hix : ∀ w, (Instr.index 42 (.agg #[.string (a2 ++ (⟨#[76]⟩ : ByteArray)), .string ((⟨#[75]⟩ : ByteArray) ++ a2), .string ((⟨#[68]⟩ : ByteArray) ++ a2), .string (⟨#[78, 84]⟩ : ByteArray)]) (.int .i64 0)).run Tryd.prog w = .ok (.string (a2 ++ (⟨#[76]⟩ : ByteArray))) w := fun _ => by kernel_rfl
              (first | rw [c18b0] | (simp only [i64_w, i32_w]; rw [c18b0]) | skip)
              have H' := AM H
              clear H
              go_wp2
              repeat (go_quiet (fail); try go_wp2)
              refine Met.intro ?_
              refine Go.Proofs.YtodijkdmcjnpkaaDoor.KPatch.meetU (by assumption) ?rel11 ?keep11
              case keep11 => repeat (first | exact rfl | refine ⟨rfl, ?_⟩)
              case rel11 => exact ⟨_, (a2 ++ (⟨#[76]⟩ : ByteArray)), (by first | rfl | (simp; done) | (simp [*]; done)), H', ⟨by have := HJ5.out; have := HJ8.out; first | omega | exact Nat.le_refl _⟩, ⟨by repeat (first | (with_reducible first | exact HB.out | apply bA | apply bD | apply b1) | exact HB.out)⟩⟩
            rw [if_neg c18] at H
            have c18b0 : (a1 == 0) = false := beq_eq_false_iff_ne.mpr c18
            have c18b1 : (a1 != 0) = true := bne_iff_ne.mpr c18
            (first | rw [c18b0] | (simp only [i64_w, i32_w]; rw [c18b0]) | skip)
            by_cases c19 : a1 = 1
            · rw [if_pos c19] at H
              have c19b0 : (a1 == 1) = true := beq_iff_eq.mpr c19
              have c19b1 : (a1 != 1) = false := bne_eq_false_iff_eq.mpr c19
              subst c19
              have hix : ∀ w, (Instr.index 42 (.agg #[.string (a2 ++ (⟨#[76]⟩ : ByteArray)), .string ((⟨#[75]⟩ : ByteArray) ++ a2), .string ((⟨#[68]⟩ : ByteArray) ++ a2), .string (⟨#[78, 84]⟩ : ByteArray)]) (.int .i64 1)).run Tryd.prog w = .ok (.string ((⟨#[75]⟩ : ByteArray) ++ a2)) w := fun _ => by kernel_rfl
              have H' := AM H
              clear H
              go_wp2
              repeat (go_quiet (fail); try go_wp2)
              refine Met.intro ?_
              refine Go.Proofs.YtodijkdmcjnpkaaDoor.KPatch.meetU (by assumption) ?rel12 ?keep12
              case keep12 => repeat (first | exact rfl | refine ⟨rfl, ?_⟩)
              case rel12 => exact ⟨_, ((⟨#[75]⟩ : ByteArray) ++ a2), (by first | rfl | (simp; done) | (simp [*]; done)), H', ⟨by have := HJ5.out; have := HJ8.out; first | omega | exact Nat.le_refl _⟩, ⟨by repeat (first | (with_reducible first | exact HB.out | apply bA | apply bD | apply b1) | exact HB.out)⟩⟩
            rw [if_neg c19] at H
            have c19b0 : (a1 == 1) = false := beq_eq_false_iff_ne.mpr c19
            have c19b1 : (a1 != 1) = true := bne_iff_ne.mpr c19
            by_cases c20 : a1 = 2
            · rw [if_pos c20] at H
              have c20b0 : (a1 == 2) = true := beq_iff_eq.mpr c20
              have c20b1 : (a1 != 2) = false := bne_eq_false_iff_eq.mpr c20
              subst c20
              have hix : ∀ w, (Instr.index 42 (.agg #[.string (a2 ++ (⟨#[76]⟩ : ByteArray)), .string ((⟨#[75]⟩ : ByteArray) ++ a2), .string ((⟨#[68]⟩ : ByteArray) ++ a2), .string (⟨#[78, 84]⟩ : ByteArray)]) (.int .i64 2)).run Tryd.prog w = .ok (.string ((⟨#[68]⟩ : ByteArray) ++ a2)) w := fun _ => by kernel_rfl
              have H' := AM H
              clear H
              go_wp2
              repeat (go_quiet (fail); try go_wp2)
              refine Met.intro ?_
              refine Go.Proofs.YtodijkdmcjnpkaaDoor.KPatch.meetU (by assumption) ?rel13 ?keep13
              case keep13 => repeat (first | exact rfl | refine ⟨rfl, ?_⟩)
              case rel13 => exact ⟨_, ((⟨#[68]⟩ : ByteArray) ++ a2), (by first | rfl | (simp; done) | (simp [*]; done)), H', ⟨by have := HJ5.out; have := HJ8.out; first | omega | exact Nat.le_refl _⟩, ⟨by repeat (first | (with_reducible first | exact HB.out | apply bA | apply bD | apply b1) | exact HB.out)⟩⟩
            rw [if_neg c20] at H
            have c20b0 : (a1 == 2) = false := beq_eq_false_iff_ne.mpr c20
            have c20b1 : (a1 != 2) = true := bne_iff_ne.mpr c20
            by_cases c21 : 0 ≤ a1
            rotate_left
            · rw [if_neg c21] at H
              exact absurd H (by simp)
            rw [if_pos c21] at H
            have c21b0 := decide_eq_true c21
            clear c21
            by_cases c22 : a1 < 4
            rotate_left
            · rw [if_neg c22] at H
              exact absurd H (by simp)
            rw [if_pos c22] at H
            have c22b0 := decide_eq_true c22
            clear c22
            have H' := AM H
            clear H
            have p23 : 0 ≤ (a1 : Int) := of_decide_eq_true (by first | (with_reducible assumption) | assumption)
            have q23 : a1 < (4 : Int) := of_decide_eq_true (by first | (with_reducible assumption) | assumption)
            obtain rfl : a1 = 3 := by omega
            have hix : ∀ w, (Instr.index 42 (.agg #[.string (a2 ++ (⟨#[76]⟩ : ByteArray)), .string ((⟨#[75]⟩ : ByteArray) ++ a2), .string ((⟨#[68]⟩ : ByteArray) ++ a2), .string (⟨#[78, 84]⟩ : ByteArray)]) (.int .i64 3)).run Tryd.prog w = .ok (.string (⟨#[78, 84]⟩ : ByteArray)) w := fun _ => by kernel_rfl
            replace p23 := eq_true p23
            replace q23 := eq_true q23
            go_wp2
            repeat (go_quiet (fail); try go_wp2)
            refine Met.intro ?_
            refine Go.Proofs.YtodijkdmcjnpkaaDoor.KPatch.meetU (by assumption) ?rel14 ?keep14
            case keep14 => repeat (first | exact rfl | refine ⟨rfl, ?_⟩)
            case rel14 => exact ⟨_, ((⟨#[78, 84]⟩ : ByteArray)), (by first | rfl | (simp; done) | (simp [*]; done)), H', ⟨by have := HJ5.out; have := HJ8.out; first | omega | exact Nat.le_refl _⟩, ⟨by repeat (first | (with_reducible first | exact HB.out | apply bA | apply bD | apply b1) | exact HB.out)⟩⟩
          case rest10 =>
            intro u_ wc hcut
            dsimp only [Go.Proofs.YtodijkdmcjnpkaaDoor.KPatch.patch]
            generalize u_ 8 = u8 at hcut ⊢
            clear HC17
            (try clear c1); (try clear c2); (try clear p2); (try clear q2); (try clear hx2); (try clear c5); (try clear c6); (try clear c8); (try clear c8b0); (try clear c8b1); (try clear c10); (try clear c10b0); (try clear c10b1); (try clear c11); (try clear c11b0); (try clear c12); (try clear c12b0); (try clear c13); (try clear c13b0); (try clear c14); (try clear c15); (try clear c15b0); (try clear c15b1); (try clear c15b2); (try clear c16); (try clear c16b0); (try clear c16b1); (try clear c16b2); (try clear c18); (try clear c18b0); (try clear c18b1); (try clear c19); (try clear c19b0); (try clear c19b1); (try clear c20); (try clear c20b0); (try clear c20b1); (try clear c21); (try clear c21b0); (try clear c22); (try clear c22b0); (try clear p23); (try clear q23); (try clear hx23); (try clear p2); (try clear p23); (try clear q23)
            obtain ⟨kq, x8_16, rfl, HA, HJ16, HB⟩ := hcut
            cases kq with
            | zero => exact absurd HA.out (by simp [stipendlaw08_CodeForms.j2])
            | succ kj16 =>
              have H := HA.out
              clear HA
              simp only [stipendlaw08_CodeForms.j2] at H
              have HC24 := AM H
              clear H
              go_upto_if 52 with (fail)
              repeat (go_quiet (fail); go_upto_if 52 with (fail))
              refine Go.Proofs.YtodijkdmcjnpkaaDoor.KPatch.cutU [none, none, none, none, none, none, none, none, some 8, none, none, none, none, none, none, none, none, some 17, some 18, some 19, some 20, some 21, some 22, some 23, some 24, some 25, some 26, some 27, some 28, some 29, some 30, some 31, some 32, some 33, some 34, some 35, some 36, some 37, some 38, some 39, some 40, some 41, some 42, some 43, some 44, some 45, some 46, some 47, some 48, some 49, some 50, some 51, some 52, some 53, some 54, some 55, some 56, some 57, some 58, some 59, some 60, some 61, some 62, some 63, some 64, some 65, some 66, some 67, some 68, some 69, some 70, some 71, some 72, some 73, some 74, some 75, some 76, some 77, some 78, some 79, some 80, none, none, some 83, some 84, some 85, some 86, some 87, some 88, some 89, some 90, some 91, some 92, some 93, some 94, some 95, some 96, some 97, some 98, some 99, some 100, some 101, some 102, some 103, some 104, some 105, some 106, some 107, some 108, none, some 110, none, some 112, some 113, some 114, some 115, some 116, none, some 118, some 119, some 120, some 121, some 122, some 123, some 124, some 125, some 126, some 127, none, some 129, some 130, some 131, some 132, some 133, some 134, some 135, some 136, some 137, some 138, some 139, some 140, some 141, some 142, some 143, some 144, none, none, some 147, some 148, some 149, some 150, some 151, some 152, some 153, some 154, some 155, some 156, some 157, some 158, some 159, some 160, some 161, some 162, some 163, some 164, some 165, some 166, some 167, some 168, some 169, some 170, some 171, some 172, some 173, some 174, some 175, some 176, some 177, some 178, some 179, some 180, some 181] (fun (u_ : Nat → Value) (wc : World) => (fun (v8 : Value) wc => ∃ (kq : Nat) (x8_23 : ByteArray), v8 = .string x8_23 ∧ Aside0 (stipendlaw08_CodeForms.j3 kq a0 a1 a2 x7_5 x8_23 = some r) ∧ Aside0 (kq ≤ kj16) ∧ Aside0 (Below w.heap.size w wc)) (u_ 8) wc) ?rest15 ?first15
              case first15 =>
                intro J_ K_ hJ_ hK_
                have H := HC24.out
                clear HC24
                by_cases c25 : a0 > 0
                rotate_left
                · rw [if_neg c25] at H
                  have c25b0 : decide (0 < a0) = false := decide_eq_false c25
                  clear c25
                  (first | rw [c25b0] | (simp only [i64_w, i32_w]; rw [c25b0]) | skip)
                  have H' := AM H
                  clear H
                  go_wp2
                  repeat (go_quiet (fail); try go_wp2)
                  refine Met.intro ?_
                  refine Go.Proofs.YtodijkdmcjnpkaaDoor.KPatch.meetU (by assumption) ?rel16 ?keep16
                  case keep16 => repeat (first | exact rfl | refine ⟨rfl, ?_⟩)
                  case rel16 => exact ⟨_, (x8_16), (by first | rfl | (simp; done) | (simp [*]; done)), H', ⟨by have := HJ5.out; have := HJ8.out; have := HJ16.out; first | omega | exact Nat.le_refl _⟩, ⟨by repeat (first | (with_reducible first | exact HB.out | apply bA | apply bD | apply b1) | exact HB.out)⟩⟩
                rw [if_pos c25] at H
                have c25b0 : decide (0 < a0) = true := decide_eq_true c25
                clear c25
                (first | rw [c25b0] | (simp only [i64_w, i32_w]; rw [c25b0]) | skip)
                obtain ⟨y237, hy237⟩ : ∃ y_ : List Int, y_ = (([(wrap64 (79 + a0)) % 256] : List Int)) := ⟨_, rfl⟩
                replace H : (if (strOfNums y237).size + x8_16.size ≤ 9223372036854775807 then (stipendlaw08_CodeForms.j3 kj16 a0 a1 a2 x7_5 ((strOfNums y237) ++ x8_16)) else (none)) = some r := by first | (rw [hy237]; with_reducible exact H) | (have H2_ := (Option.bind_some _ _).symm.trans H; rw [hy237]; with_reducible exact H2_) | (have H2_ := (Option.bind_some _ _).symm.trans H; with_reducible exact H2_) | with_reducible exact H | (rw [hy237]; exact H) | exact H
                have Ny237 := AM hy237
                clear hy237
                by_cases c26 : (strOfNums y237).size + x8_16.size ≤ 9223372036854775807
                rotate_left
                · rw [if_neg c26] at H
                  exact absurd H (by simp)
                rw [if_pos c26] at H
                have c26b0 := eq_true c26
                have c26b1 : decide ((strOfNums y237).size + x8_16.size ≤ 9223372036854775807) = true := decide_eq_true c26
                try have c26b2 : (9223372036854775807 < (strOfNums y237).size + x8_16.size) = False := eq_false (Nat.not_lt.2 c26)
                have H' := AM H
                clear H
                go_wp2_with (first | ((with_reducible refine gD (N := 56) rfl ?_); (try (refine gG (by rfl) ?_; dsimp only)); refine Kd.R_lit (Kd.int .u8) _ 5 ?hg (N := 56) ?hd (xs := ([(wrap64 (79 + a0)) % 256] : List Int)) (inner := [.int .u8 ((wrap64 (79 + a0)) % 256)]) (ok := fun _ => True) (okp := fun _ => True) ?hr ?hp (fun _ hk => hk) trivial (Below.refl _ _) (Nat.le_refl _) (by simp) ?_; (case hd => rfl); (case hg => rfl); (case hr => first | (go_simp; done) | (go_simp; rfl)); (case hp => exact (Reps.one (show Kd.M (Kd.int .u8) _ _ _ ((wrap64 (79 + a0)) % 256) [.int .u8 ((wrap64 (79 + a0)) % 256)] from rfl) (Reps.none _ _))); intro v238 w27 ho28 hb hg_ hnew_; clear hg_ hnew_; (first | rw [← Ny237.out] at ho28 | (simp only [Int.reduceToNat] at ho28; rw [← Ny237.out] at ho28)); have n0_ := AM (Kd.R_lower ho28 (bZ bQ)); have n1_ := AM (bT bQ hb); clear HB; have HO239 := n0_; have HB := n1_; clear n0_ n1_; clear hb ho28; have hcv29 := own_string (P := Tryd.prog) Tryd.underlying43 Tryd.underlying5 Tryd.underlying9 (Kd.own_of_R HO239.out)))
                repeat (go_quiet (first | ((with_reducible refine gD (N := 56) rfl ?_); (try (refine gG (by rfl) ?_; dsimp only)); refine Kd.R_lit (Kd.int .u8) _ 5 ?hg (N := 56) ?hd (xs := ([(wrap64 (79 + a0)) % 256] : List Int)) (inner := [.int .u8 ((wrap64 (79 + a0)) % 256)]) (ok := fun _ => True) (okp := fun _ => True) ?hr ?hp (fun _ hk => hk) trivial (Below.refl _ _) (Nat.le_refl _) (by simp) ?_; (case hd => rfl); (case hg => rfl); (case hr => first | (go_simp; done) | (go_simp; rfl)); (case hp => exact (Reps.one (show Kd.M (Kd.int .u8) _ _ _ ((wrap64 (79 + a0)) % 256) [.int .u8 ((wrap64 (79 + a0)) % 256)] from rfl) (Reps.none _ _))); intro v238 w27 ho28 hb hg_ hnew_; clear hg_ hnew_; (first | rw [← Ny237.out] at ho28 | (simp only [Int.reduceToNat] at ho28; rw [← Ny237.out] at ho28)); have n0_ := AM (Kd.R_lower ho28 (bZ bQ)); have n1_ := AM (bT bQ hb); clear HB; have HO239 := n0_; have HB := n1_; clear n0_ n1_; clear hb ho28; have hcv29 := own_string (P := Tryd.prog) Tryd.underlying43 Tryd.underlying5 Tryd.underlying9 (Kd.own_of_R HO239.out))); try go_wp2_with (first | ((with_reducible refine gD (N := 56) rfl ?_); (try (refine gG (by rfl) ?_; dsimp only)); refine Kd.R_lit (Kd.int .u8) _ 5 ?hg (N := 56) ?hd (xs := ([(wrap64 (79 + a0)) % 256] : List Int)) (inner := [.int .u8 ((wrap64 (79 + a0)) % 256)]) (ok := fun _ => True) (okp := fun _ => True) ?hr ?hp (fun _ hk => hk) trivial (Below.refl _ _) (Nat.le_refl _) (by simp) ?_; (case hd => rfl); (case hg => rfl); (case hr => first | (go_simp; done) | (go_simp; rfl)); (case hp => exact (Reps.one (show Kd.M (Kd.int .u8) _ _ _ ((wrap64 (79 + a0)) % 256) [.int .u8 ((wrap64 (79 + a0)) % 256)] from rfl) (Reps.none _ _))); intro v238 w27 ho28 hb hg_ hnew_; clear hg_ hnew_; (first | rw [← Ny237.out] at ho28 | (simp only [Int.reduceToNat] at ho28; rw [← Ny237.out] at ho28)); have n0_ := AM (Kd.R_lower ho28 (bZ bQ)); have n1_ := AM (bT bQ hb); clear HB; have HO239 := n0_; have HB := n1_; clear n0_ n1_; clear hb ho28; have hcv29 := own_string (P := Tryd.prog) Tryd.underlying43 Tryd.underlying5 Tryd.underlying9 (Kd.own_of_R HO239.out))))
                refine Met.intro ?_
                refine Go.Proofs.YtodijkdmcjnpkaaDoor.KPatch.meetU (by assumption) ?rel17 ?keep17
                case keep17 => repeat (first | exact rfl | refine ⟨rfl, ?_⟩)
                case rel17 => exact ⟨_, ((strOfNums y237) ++ x8_16), (by first | rfl | (simp; done) | (simp [*]; done)), H', ⟨by have := HJ5.out; have := HJ8.out; have := HJ16.out; first | omega | exact Nat.le_refl _⟩, ⟨by repeat (first | (with_reducible first | exact HB.out | apply bA | apply bD | apply b1) | exact HB.out)⟩⟩
              case rest15 =>
                intro u_ wc hcut
                dsimp only [Go.Proofs.YtodijkdmcjnpkaaDoor.KPatch.patch]
                generalize u_ 8 = u8 at hcut ⊢
                clear HC24
                (try clear c1); (try clear c2); (try clear p2); (try clear q2); (try clear hx2); (try clear hcv2); (try clear c5); (try clear c6); (try clear p6); (try clear c8); (try clear c8b0); (try clear c8b1); (try clear c10); (try clear c10b0); (try clear c10b1); (try clear c11); (try clear c11b0); (try clear c12); (try clear c12b0); (try clear c13); (try clear c13b0); (try clear c14); (try clear c15); (try clear c15b0); (try clear c15b1); (try clear c15b2); (try clear c16); (try clear c16b0); (try clear c16b1); (try clear c16b2); (try clear c18); (try clear c18b0); (try clear c18b1); (try clear c19); (try clear c19b0); (try clear c19b1); (try clear c20); (try clear c20b0); (try clear c20b1); (try clear c21); (try clear c21b0); (try clear c22); (try clear c22b0); (try clear p23); (try clear q23); (try clear hx23); (try clear c25); (try clear c25b0); (try clear c26); (try clear c26b0); (try clear c26b1); (try clear c26b2); (try clear hcv29); (try clear p2); (try clear p23); (try clear q2); (try clear q23)
                obtain ⟨kq, x8_23, rfl, HA, HJ23, HB⟩ := hcut
                cases kq with
                | zero => exact absurd HA.out (by simp [stipendlaw08_CodeForms.j3])
                | succ kj23 =>
                  have H := HA.out
                  clear HA
                  simp only [stipendlaw08_CodeForms.j3] at H
                  have HC30 := AM H
                  clear H
                  go_upto_if 60 with (fail)
                  repeat (go_quiet (fail); go_upto_if 60 with (fail))
                  refine Go.Proofs.YtodijkdmcjnpkaaDoor.KPatch.cutU [none, none, none, none, none, none, none, none, some 8, none, none, none, none, none, none, none, none, some 17, some 18, some 19, some 20, some 21, some 22, some 23, some 24, some 25, some 26, some 27, some 28, some 29, some 30, some 31, some 32, some 33, some 34, some 35, some 36, some 37, some 38, some 39, some 40, some 41, some 42, some 43, some 44, some 45, some 46, some 47, some 48, some 49, some 50, some 51, some 52, some 53, some 54, some 55, some 56, some 57, some 58, some 59, some 60, some 61, some 62, some 63, some 64, some 65, some 66, some 67, some 68, some 69, some 70, some 71, some 72, some 73, some 74, some 75, some 76, some 77, some 78, some 79, some 80, none, none, some 83, some 84, some 85, some 86, some 87, some 88, some 89, some 90, some 91, some 92, some 93, some 94, some 95, some 96, some 97, some 98, some 99, some 100, some 101, some 102, some 103, some 104, some 105, some 106, some 107, some 108, none, some 110, none, some 112, some 113, some 114, some 115, some 116, none, some 118, some 119, some 120, some 121, some 122, some 123, some 124, some 125, some 126, some 127, none, some 129, some 130, some 131, some 132, some 133, some 134, some 135, some 136, some 137, some 138, some 139, some 140, some 141, some 142, some 143, some 144, none, none, some 147, some 148, some 149, some 150, some 151, some 152, some 153, some 154, some 155, some 156, some 157, some 158, some 159, some 160, some 161, some 162, some 163, some 164, some 165, some 166, some 167, some 168, some 169, some 170, some 171, some 172, some 173, some 174, some 175, some 176, some 177, some 178, some 179, some 180, some 181] (fun (u_ : Nat → Value) (wc : World) => (fun (v8 : Value) wc => ∃ (kq : Nat) (x8_29 : ByteArray), v8 = .string x8_29 ∧ Aside0 (stipendlaw08_CodeForms.j4 kq a0 a1 a2 x7_5 x8_29 = some r) ∧ Aside0 (kq ≤ kj23) ∧ Aside0 (Below w.heap.size w wc)) (u_ 8) wc) ?rest18 ?first18
                  case first18 =>
                    intro J_ K_ hJ_ hK_
                    have H := HC30.out
                    clear HC30
                    by_cases c31 : x7_5 = true
                    rotate_left
                    · replace c31 := Bool.eq_false_iff.mpr c31
                      subst c31
                      have H1 : (stipendlaw08_CodeForms.j4 kj23 a0 a1 a2 false x8_23) = some r := by rw [if_neg (show ¬ (false = true) by decide)] at H; exact H
                      clear H
                      have H := H1
                      clear H1
                      have H' := AM H
                      clear H
                      go_wp2
                      repeat (go_quiet (fail); try go_wp2)
                      refine Met.intro ?_
                      refine Go.Proofs.YtodijkdmcjnpkaaDoor.KPatch.meetU (by assumption) ?rel19 ?keep19
                      case keep19 => repeat (first | exact rfl | refine ⟨rfl, ?_⟩)
                      case rel19 => exact ⟨_, (x8_23), (by first | rfl | (simp; done) | (simp [*]; done)), H', ⟨by have := HJ5.out; have := HJ8.out; have := HJ16.out; have := HJ23.out; first | omega | exact Nat.le_refl _⟩, ⟨by repeat (first | (with_reducible first | exact HB.out | apply bA | apply bD | apply b1) | exact HB.out)⟩⟩
                    subst c31
                    have H1 : (if x8_23.size + 1 ≤ 9223372036854775807 then (stipendlaw08_CodeForms.j4 kj23 a0 a1 a2 true (x8_23 ++ (⟨#[88]⟩ : ByteArray))) else (none)) = some r := by rw [if_pos rfl] at H; exact H
                    clear H
                    have H := H1
                    clear H1
                    by_cases c32 : x8_23.size + 1 ≤ 9223372036854775807
                    rotate_left
                    · rw [if_neg c32] at H
                      exact absurd H (by simp)
                    rw [if_pos c32] at H
                    have c32b0 := eq_true c32
                    have c32b1 : decide (x8_23.size + 1 ≤ 9223372036854775807) = true := decide_eq_true c32
                    try have c32b2 : (9223372036854775807 < x8_23.size + 1) = False := eq_false (Nat.not_lt.2 c32)
                    have H' := AM H
                    clear H
                    go_wp2
                    repeat (go_quiet (fail); try go_wp2)
                    refine Met.intro ?_
                    refine Go.Proofs.YtodijkdmcjnpkaaDoor.KPatch.meetU (by assumption) ?rel20 ?keep20
                    case keep20 => repeat (first | exact rfl | refine ⟨rfl, ?_⟩)
                    case rel20 => exact ⟨_, (x8_23 ++ (⟨#[88]⟩ : ByteArray)), (by first | rfl | (simp; done) | (simp [*]; done)), H', ⟨by have := HJ5.out; have := HJ8.out; have := HJ16.out; have := HJ23.out; first | omega | exact Nat.le_refl _⟩, ⟨by repeat (first | (with_reducible first | exact HB.out | apply bA | apply bD | apply b1) | exact HB.out)⟩⟩
                  case rest18 =>
                    intro u_ wc hcut
                    dsimp only [Go.Proofs.YtodijkdmcjnpkaaDoor.KPatch.patch]
                    generalize u_ 8 = u8 at hcut ⊢
                    clear HC30
                    (try clear c1); (try clear c2); (try clear p2); (try clear q2); (try clear hx2); (try clear hcv2); (try clear c3); (try clear c5); (try clear c6); (try clear p6); (try clear c8); (try clear c8b0); (try clear c8b1); (try clear c10); (try clear c10b0); (try clear c10b1); (try clear c11); (try clear c11b0); (try clear c12); (try clear c12b0); (try clear c13); (try clear c13b0); (try clear c14); (try clear c15); (try clear c15b0); (try clear c15b1); (try clear c15b2); (try clear c16); (try clear c16b0); (try clear c16b1); (try clear c16b2); (try clear c18); (try clear c18b0); (try clear c18b1); (try clear c19); (try clear c19b0); (try clear c19b1); (try clear c20); (try clear c20b0); (try clear c20b1); (try clear c21); (try clear c21b0); (try clear c22); (try clear c22b0); (try clear p23); (try clear q23); (try clear hx23); (try clear c25); (try clear c25b0); (try clear c26); (try clear c26b0); (try clear c26b1); (try clear c26b2); (try clear hcv29); (try clear c31); (try clear c32); (try clear c32b0); (try clear c32b1); (try clear c32b2); (try clear p2); (try clear p23); (try clear p6); (try clear q2); (try clear q23)
                    obtain ⟨kq, x8_29, rfl, HA, HJ29, HB⟩ := hcut
                    cases kq with
                    | zero => exact absurd HA.out (by simp [stipendlaw08_CodeForms.j4])
                    | succ kj29 =>
                      have H := HA.out
                      clear HA
                      simp only [stipendlaw08_CodeForms.j4] at H
                      have HC33 := AM H
                      clear H
                      go_upto_region 11 with (fail)
                      repeat (go_quiet (fail); go_upto_region 11 with (fail))
                      refine Go.Proofs.YtodijkdmcjnpkaaDoor.KPatch.cutU [none, none, none, none, none, none, none, none, none, some 9, some 10, none, none, none, none, none, none, some 17, some 18, some 19, some 20, some 21, some 22, some 23, some 24, some 25, some 26, some 27, some 28, some 29, some 30, some 31, some 32, some 33, some 34, some 35, some 36, some 37, some 38, some 39, some 40, some 41, some 42, some 43, some 44, some 45, some 46, some 47, some 48, some 49, some 50, some 51, some 52, some 53, some 54, some 55, some 56, some 57, some 58, some 59, some 60, some 61, some 62, some 63, some 64, some 65, some 66, some 67, some 68, some 69, some 70, some 71, some 72, some 73, some 74, some 75, some 76, some 77, some 78, some 79, some 80, none, none, some 83, some 84, some 85, some 86, some 87, some 88, some 89, some 90, some 91, some 92, some 93, some 94, some 95, some 96, some 97, some 98, some 99, some 100, some 101, some 102, some 103, some 104, some 105, some 106, some 107, some 108, none, some 110, none, some 112, some 113, some 114, some 115, some 116, none, some 118, some 119, some 120, some 121, some 122, some 123, some 124, some 125, some 126, some 127, none, some 129, some 130, some 131, some 132, some 133, some 134, some 135, some 136, some 137, some 138, some 139, some 140, some 141, some 142, some 143, some 144, none, none, some 147, some 148, some 149, some 150, some 151, some 152, some 153, some 154, some 155, some 156, some 157, some 158, some 159, some 160, some 161, some 162, some 163, some 164, some 165, some 166, some 167, some 168, some 169, some 170, some 171, some 172, some 173, some 174, some 175, some 176, some 177, some 178, some 179, some 180, some 181] (fun (u_ : Nat → Value) (wc : World) => (fun (v9 : Value) (v10 : Value) wc => ∃ (kq : Nat) (x9_32 : Int) (x10_32 : Bool), v9 = .int .i64 x9_32 ∧ v10 = .bool x10_32 ∧ Aside0 (stipendlaw08_CodeForms.j5 kq a0 a1 a2 x7_5 x8_29 x9_32 x10_32 = some r) ∧ Aside0 (kq ≤ kj29) ∧ Aside0 (Below w.heap.size w wc)) (u_ 9) (u_ 10) wc) ?rest21 ?first21
                      case first21 =>
                        intro J_ K_ hJ_ hK_
                        have H := HC33.out
                        clear HC33
                        by_cases c34 : a2.toList = ([] : List UInt8)
                        · rw [if_pos c34] at H
                          have c34b0 : (a2.toList == ([] : List UInt8)) = true := beq_iff_eq.mpr c34
                          have c34b1 : (a2.toList != ([] : List UInt8)) = false := bne_eq_false_iff_eq.mpr c34
                          clear c34
                          (first | rw [c34b0] | (simp only [i64_w, i32_w]; rw [c34b0]) | skip)
                          have H' := AM H
                          clear H
                          go_wp2
                          repeat (go_quiet (fail); try go_wp2)
                          refine Met.intro ?_
                          refine Go.Proofs.YtodijkdmcjnpkaaDoor.KPatch.meetU (by assumption) ?rel22 ?keep22
                          case keep22 => repeat (first | exact rfl | refine ⟨rfl, ?_⟩)
                          case rel22 => exact ⟨_, (0), (false), (by first | rfl | (simp; done) | (simp [*]; done)), (by first | rfl | (simp; done) | (simp [*]; done)), H', ⟨by have := HJ5.out; have := HJ8.out; have := HJ16.out; have := HJ23.out; have := HJ29.out; first | omega | exact Nat.le_refl _⟩, ⟨by repeat (first | (with_reducible first | exact HB.out | apply bA | apply bD | apply b1) | exact HB.out)⟩⟩
                        rw [if_neg c34] at H
                        have c34b0 : (a2.toList == ([] : List UInt8)) = false := beq_eq_false_iff_ne.mpr c34
                        have c34b1 : (a2.toList != ([] : List UInt8)) = true := bne_iff_ne.mpr c34
                        (first | rw [c34b0] | (simp only [i64_w, i32_w]; rw [c34b0]) | skip)
                        by_cases c35 : (a2.size : Int) ≤ 6
                        rotate_left
                        · rw [if_neg c35] at H
                          have c35b0 := decide_eq_false c35
                          have c35b1 : decide (a2.size ≤ 6) = false := decide_eq_false (by omega)
                          clear c35
                          have H' := AM H
                          clear H
                          go_wp2
                          repeat (go_quiet (fail); try go_wp2)
                          refine Met.intro ?_
                          refine Go.Proofs.YtodijkdmcjnpkaaDoor.KPatch.meetU (by assumption) ?rel23 ?keep23
                          case keep23 => repeat (first | exact rfl | refine ⟨rfl, ?_⟩)
                          case rel23 => exact ⟨_, (0), (false), (by first | rfl | (simp; done) | (simp [*]; done)), (by first | rfl | (simp; done) | (simp [*]; done)), H', ⟨by have := HJ5.out; have := HJ8.out; have := HJ16.out; have := HJ23.out; have := HJ29.out; first | omega | exact Nat.le_refl _⟩, ⟨by repeat (first | (with_reducible first | exact HB.out | apply bA | apply bD | apply b1) | exact HB.out)⟩⟩
                        rw [if_pos c35] at H
                        have c35b0 := decide_eq_true c35
                        have c35b1 : decide (a2.size ≤ 6) = true := decide_eq_true (by omega)
                        clear c35
                        by_cases c36 : (a2.size : Int) = 1
                        · rw [if_pos c36] at H
                          have c36b0 : ((a2.size : Int) == 1) = true := beq_iff_eq.mpr c36
                          have c36b1 : ((a2.size : Int) != 1) = false := bne_eq_false_iff_eq.mpr c36
                          clear c36
                          have H' := AM H
                          clear H
                          go_wp2
                          repeat (go_quiet (fail); try go_wp2)
                          refine Met.intro ?_
                          refine Go.Proofs.YtodijkdmcjnpkaaDoor.KPatch.meetU (by assumption) ?rel24 ?keep24
                          case keep24 => repeat (first | exact rfl | refine ⟨rfl, ?_⟩)
                          case rel24 => exact ⟨_, (0), (true), (by first | rfl | (simp; done) | (simp [*]; done)), (by first | rfl | (simp; done) | (simp [*]; done)), H', ⟨by have := HJ5.out; have := HJ8.out; have := HJ16.out; have := HJ23.out; have := HJ29.out; first | omega | exact Nat.le_refl _⟩, ⟨by repeat (first | (with_reducible first | exact HB.out | apply bA | apply bD | apply b1) | exact HB.out)⟩⟩
                        rw [if_neg c36] at H
                        have c36b0 : ((a2.size : Int) == 1) = false := beq_eq_false_iff_ne.mpr c36
                        have c36b1 : ((a2.size : Int) != 1) = true := bne_iff_ne.mpr c36
                        by_cases c37 : 0 < (a2.size : Int)
                        rotate_left
                        · rw [if_neg c37] at H
                          exact absurd H (by simp)
                        rw [if_pos c37] at H
                        have c37b0 := decide_eq_true c37
                        have c37b1 : decide (0 < a2.size) = true := decide_eq_true (by omega)
                        clear c37
                        have H' := AM H
                        clear H
                        have p38 : 0 ≤ (0 : Int) := (by omega)
                        have q38 : 0 < a2.size := (by have : (0 : Int) < (a2.size : Int) := of_decide_eq_true (by first | (with_reducible assumption) | assumption); omega)
                        have hx38 : ∀ h : 0 < a2.size, ((a2[0]'h).toNat : Int) = bt a2 0 := bt_at a2 0
                        clear p38
                        have qi38 : (0 < (a2.size : Int)) = True := eq_true (of_decide_eq_true (by first | (with_reducible assumption) | assumption))
                        replace q38 := eq_true q38
                        go_wp2
                        repeat (go_quiet (fail); try go_wp2)
                        refine Met.intro ?_
                        refine Go.Proofs.YtodijkdmcjnpkaaDoor.KPatch.meetU (by assumption) ?rel25 ?keep25
                        case keep25 => repeat (first | exact rfl | refine ⟨rfl, ?_⟩)
                        case rel25 => exact ⟨_, (0), (((bt a2 0) != 48)), (by first | rfl | (simp; done) | (simp [*]; done)), (by first | rfl | (simp; done) | (simp [*]; done)), H', ⟨by have := HJ5.out; have := HJ8.out; have := HJ16.out; have := HJ23.out; have := HJ29.out; first | omega | exact Nat.le_refl _⟩, ⟨by repeat (first | (with_reducible first | exact HB.out | apply bA | apply bD | apply b1) | exact HB.out)⟩⟩
                      case rest21 =>
                        intro u_ wc hcut
                        dsimp only [Go.Proofs.YtodijkdmcjnpkaaDoor.KPatch.patch]
                        generalize u_ 9 = u9 at hcut ⊢
                        generalize u_ 10 = u10 at hcut ⊢
                        clear HC33
                        (try clear c1); (try clear c2); (try clear p2); (try clear q2); (try clear hx2); (try clear hcv2); (try clear c3); (try clear p3); (try clear q3); (try clear hx3); (try clear qi3); (try clear c5); (try clear c6); (try clear p6); (try clear c8); (try clear c8b0); (try clear c8b1); (try clear c10); (try clear c10b0); (try clear c10b1); (try clear c11); (try clear c11b0); (try clear c12); (try clear c12b0); (try clear c13); (try clear c13b0); (try clear c14); (try clear c15); (try clear c15b0); (try clear c15b1); (try clear c15b2); (try clear c16); (try clear c16b0); (try clear c16b1); (try clear c16b2); (try clear c18); (try clear c18b0); (try clear c18b1); (try clear c19); (try clear c19b0); (try clear c19b1); (try clear c20); (try clear c20b0); (try clear c20b1); (try clear c21); (try clear c21b0); (try clear c22); (try clear c22b0); (try clear p23); (try clear q23); (try clear hx23); (try clear c25); (try clear c25b0); (try clear c26); (try clear c26b0); (try clear c26b1); (try clear c26b2); (try clear hcv29); (try clear c31); (try clear c32); (try clear c32b0); (try clear c32b1); (try clear c32b2); (try clear c34); (try clear c34b0); (try clear c34b1); (try clear c35); (try clear c35b0); (try clear c35b1); (try clear c36); (try clear c36b0); (try clear c36b1); (try clear c37); (try clear c37b0); (try clear c37b1); (try clear p38); (try clear q38); (try clear hx38); (try clear qi38); (try clear p2); (try clear p23); (try clear p38); (try clear p6); (try clear q2); (try clear q23); (try clear q38)
                        obtain ⟨kq, x9_32, x10_32, rfl, rfl, HA, HJ32, HB⟩ := hcut
                        cases kq with
                        | zero => exact absurd HA.out (by simp [stipendlaw08_CodeForms.j5])
                        | succ kj32 =>
                          have H := HA.out
                          clear HA
                          simp only [stipendlaw08_CodeForms.j5] at H
                          have H' := AM H
                          clear H
                          go_wp2
                          repeat (go_quiet (fail); try go_wp2)
                          refine Go.Proofs.YtodijkdmcjnpkaaDoor.KPatch.loopU [none, none, none, none, none, none, none, none, none, some 9, some 10, some 11, none, none, none, none, none, none, none, none, none, none, none, none, none, none, none, none, none, none, none, none, none, none, none, none, none, none, none, none, none, none, none, none, none, none, none, none, none, none, none, none, none, none, none, none, none, none, none, none, none, none, none, none, none, none, none, none, none, none, none, none, none, none, none, none, none, none, none, none, none, none, some 82, some 83, some 84, some 85, some 86, some 87, some 88, some 89, some 90, some 91, some 92, some 93, some 94, some 95, some 96, some 97, some 98, some 99, some 100, some 101, some 102, some 103, some 104, some 105, none, none, none, none, none, none, none, none, none, none, none, none, none, none, none, none, none, none, none, none, none, none, none, none, none, none, none, none, none, none, none, none, none, none, none, none, none, none, none, none, none, none, none, none, none, none, none, none, none, none, none, none, none, none, none, none, none, none, none, none, none, none, none, none, none, none, none, none, none, none, none, none, none, none, none, none] kj32 (fun (kq : Nat) (u_ : Nat → Value) (w' : World) => (fun (kq : Nat) (v9 : Value) (v10 : Value) (v82 : Value) (w' : World) => ∃ (x9_7 : Int) (x10_7 : Bool) (x82_7 : Int), v9 = .int .i64 x9_7 ∧ v10 = .bool x10_7 ∧ v82 = .int .i64 x82_7 ∧ Aside0 (stipendlaw08_CodeForms.l0 kq a0 a1 a2 x7_5 x8_29 x9_7 x10_7 (a2.size : Int) x82_7 = some r) ∧ Aside0 (kq ≤ kj32) ∧ Aside0 (Below w.heap.size w w')) kq (u_ 9) (u_ 10) (u_ 82) w') ?atStart26 ?self26 ?round26
                          case self26 => repeat (first | exact rfl | refine ⟨rfl, ?_⟩)
                          case atStart26 => exact ⟨(x9_32), (x10_32), (0), (by first | rfl | (simp; done) | (simp [*]; done)), (by first | rfl | (simp; done) | (simp [*]; done)), (by first | rfl | (simp; done) | (simp [*]; done)), H', ⟨Nat.le_refl _⟩, ⟨by repeat (first | (with_reducible first | exact HB.out | apply bA | apply bD | apply b1) | exact HB.out)⟩⟩
                          case round26 =>
                            intro gk u_ wr hrel J_ K_ hL_ hK_
                            dsimp only [Go.Proofs.YtodijkdmcjnpkaaDoor.KPatch.patch]
                            generalize u_ 9 = u9 at hrel ⊢
                            generalize u_ 10 = u10 at hrel ⊢
                            generalize u_ 82 = u82 at hrel ⊢
                            clear H'
                            (try clear c1); (try clear c2); (try clear p2); (try clear q2); (try clear hx2); (try clear hcv2); (try clear c3); (try clear p3); (try clear q3); (try clear hx3); (try clear qi3); (try clear c5); (try clear c6); (try clear p6); (try clear c8); (try clear c8b0); (try clear c8b1); (try clear c10); (try clear c10b0); (try clear c10b1); (try clear c11); (try clear c11b0); (try clear c12); (try clear c12b0); (try clear c13); (try clear c13b0); (try clear c14); (try clear c15); (try clear c15b0); (try clear c15b1); (try clear c15b2); (try clear c16); (try clear c16b0); (try clear c16b1); (try clear c16b2); (try clear c18); (try clear c18b0); (try clear c18b1); (try clear c19); (try clear c19b0); (try clear c19b1); (try clear c20); (try clear c20b0); (try clear c20b1); (try clear c21); (try clear c21b0); (try clear c22); (try clear c22b0); (try clear p23); (try clear q23); (try clear hx23); (try clear c25); (try clear c25b0); (try clear c26); (try clear c26b0); (try clear c26b1); (try clear c26b2); (try clear hcv29); (try clear c31); (try clear c32); (try clear c32b0); (try clear c32b1); (try clear c32b2); (try clear c34); (try clear c34b0); (try clear c34b1); (try clear c35); (try clear c35b0); (try clear c35b1); (try clear c36); (try clear c36b0); (try clear c36b1); (try clear c37); (try clear c37b0); (try clear c37b1); (try clear p38); (try clear q38); (try clear hx38); (try clear qi38); (try clear p2); (try clear p23); (try clear p3); (try clear p38); (try clear p6); (try clear q2); (try clear q23); (try clear q3); (try clear q38)
                            obtain ⟨x9_7, x10_7, x82_7, rfl, rfl, rfl, HA, HK7, HB⟩ := hrel
                            cases gk with
                            | zero => exact absurd HA.out (by simp [stipendlaw08_CodeForms.l0])
                            | succ k7 =>
                              have H := HA.out
                              clear HA
                              simp only [stipendlaw08_CodeForms.l0] at H
                              by_cases c39 : x82_7 < (a2.size : Int)
                              · rw [if_pos c39] at H
                                have c39b0 := decide_eq_true c39
                                clear c39
                                have HC40 := AM H
                                clear H
                                go_upto_region 15 with (fail)
                                repeat (go_quiet (fail); go_upto_region 15 with (fail))
                                refine Go.Proofs.YtodijkdmcjnpkaaDoor.KPatch.cutU [none, none, none, none, none, none, none, none, none, none, none, none, none, none, none, none, none, none, none, none, none, none, none, none, none, none, none, none, none, none, none, none, none, none, none, none, none, none, none, none, none, none, none, none, none, none, none, none, none, none, none, none, none, none, none, none, none, none, none, none, none, none, none, none, none, none, none, none, none, none, none, none, none, none, none, none, none, none, none, none, none, none, none, some 83, some 84, some 85, some 86, some 87, some 88, some 89, some 90, some 91, some 92, some 93, some 94, some 95, some 96, some 97, some 98, some 99, some 100, some 101, some 102, some 103, some 104, some 105, none, none, none, none, none, none, none, none, none, none, none, none, none, none, none, none, none, none, none, none, none, none, none, none, none, none, none, none, none, none, none, none, none, none, none, none, none, none, none, none, none, none, none, none, none, none, none, none, none, none, none, none, none, none, none, none, none, none, none, none, none, none, none, none, none, none, none, none, none, none, none, none, none, none, none, none] (fun (u_ : Nat → Value) (wc : World) => (fun (v94 : Value) wc => ∃ (kq : Nat) (x94_39 : Bool), v94 = .bool x94_39 ∧ Aside0 (stipendlaw08_CodeForms.j7 kq a0 a1 a2 x7_5 x8_29 x9_7 x10_7 x82_7 (a2.size : Int) x82_7 x94_39 = some r) ∧ Aside0 (kq ≤ k7) ∧ Aside0 (Below w.heap.size w wc)) (u_ 94) wc) ?rest27 ?first27
                                case first27 =>
                                  intro J_ K_ hJ_ hK_
                                  have H := HC40.out
                                  clear HC40
                                  by_cases c41 : 0 ≤ x82_7
                                  rotate_left
                                  · rw [if_neg c41] at H
                                    exact absurd H (by simp)
                                  rw [if_pos c41] at H
                                  have c41b0 := decide_eq_true c41
                                  clear c41
                                  (first | rw [c41b0] | (simp only [i64_w, i32_w]; rw [c41b0]) | skip)
                                  by_cases c42 : x82_7 < (a2.size : Int)
                                  rotate_left
                                  · rw [if_neg c42] at H
                                    exact absurd H (by simp)
                                  rw [if_pos c42] at H
                                  have c42b0 := decide_eq_true c42
                                  clear c42
                                  by_cases c44 : (bt a2 x82_7) < 48
                                  · rw [if_pos c44] at H
                                    have c44b0 := decide_eq_true c44
                                    clear c44
                                    have H' := AM H
                                    clear H
                                    have p43 : 0 ≤ (x82_7 : Int) := of_decide_eq_true (by first | (with_reducible assumption) | assumption)
                                    have q43 : x82_7 < (a2.size : Int) := of_decide_eq_true (by first | (with_reducible assumption) | assumption)
                                    have hx43 := bt_at a2 x82_7
                                    replace p43 := eq_true p43
                                    replace q43 := eq_true q43
                                    go_wp2
                                    repeat (go_quiet (fail); try go_wp2)
                                    refine Met.intro ?_
                                    refine Go.Proofs.YtodijkdmcjnpkaaDoor.KPatch.meetU (by assumption) ?rel28 ?keep28
                                    case keep28 => repeat (first | exact rfl | refine ⟨rfl, ?_⟩)
                                    case rel28 => exact ⟨_, (true), (by first | rfl | (simp; done) | (simp [*]; done)), H', ⟨by have := HJ5.out; have := HJ8.out; have := HJ16.out; have := HJ23.out; have := HJ29.out; have := HJ32.out; have := HK7.out; first | omega | exact Nat.le_refl _⟩, ⟨by repeat (first | (with_reducible first | exact HB.out | apply bA | apply bD | apply b1) | exact HB.out)⟩⟩
                                  rw [if_neg c44] at H
                                  have c44b0 := decide_eq_false c44
                                  clear c44
                                  have H' := AM H
                                  clear H
                                  have p43 : 0 ≤ (x82_7 : Int) := of_decide_eq_true (by first | (with_reducible assumption) | assumption)
                                  have q43 : x82_7 < (a2.size : Int) := of_decide_eq_true (by first | (with_reducible assumption) | assumption)
                                  have hx43 := bt_at a2 x82_7
                                  replace p43 := eq_true p43
                                  replace q43 := eq_true q43
                                  have p45 : 0 ≤ (x82_7 : Int) := of_decide_eq_true (by first | (with_reducible assumption) | assumption)
                                  have q45 : x82_7 < (a2.size : Int) := of_decide_eq_true (by first | (with_reducible assumption) | assumption)
                                  have hx45 := bt_at a2 x82_7
                                  replace p45 := eq_true p45
                                  replace q45 := eq_true q45
                                  go_wp2
                                  repeat (go_quiet (fail); try go_wp2)
                                  refine Met.intro ?_
                                  refine Go.Proofs.YtodijkdmcjnpkaaDoor.KPatch.meetU (by assumption) ?rel29 ?keep29
                                  case keep29 => repeat (first | exact rfl | refine ⟨rfl, ?_⟩)
                                  case rel29 => exact ⟨_, (decide ((bt a2 x82_7) > 57)), (by first | rfl | (simp; done) | (simp [*]; done)), H', ⟨by have := HJ5.out; have := HJ8.out; have := HJ16.out; have := HJ23.out; have := HJ29.out; have := HJ32.out; have := HK7.out; first | omega | exact Nat.le_refl _⟩, ⟨by repeat (first | (with_reducible first | exact HB.out | apply bA | apply bD | apply b1) | exact HB.out)⟩⟩
                                case rest27 =>
                                  intro u_ wc hcut
                                  dsimp only [Go.Proofs.YtodijkdmcjnpkaaDoor.KPatch.patch]
                                  generalize u_ 94 = u94 at hcut ⊢
                                  clear HC40
                                  (try clear c1); (try clear c2); (try clear p2); (try clear q2); (try clear hx2); (try clear hcv2); (try clear c3); (try clear p3); (try clear q3); (try clear hx3); (try clear qi3); (try clear c4); (try clear p4); (try clear q4); (try clear hx4); (try clear c5); (try clear c6); (try clear p6); (try clear c8); (try clear c8b0); (try clear c8b1); (try clear c10); (try clear c10b0); (try clear c10b1); (try clear c11); (try clear c11b0); (try clear c12); (try clear c12b0); (try clear c13); (try clear c13b0); (try clear c14); (try clear c15); (try clear c15b0); (try clear c15b1); (try clear c15b2); (try clear c16); (try clear c16b0); (try clear c16b1); (try clear c16b2); (try clear c18); (try clear c18b0); (try clear c18b1); (try clear c19); (try clear c19b0); (try clear c19b1); (try clear c20); (try clear c20b0); (try clear c20b1); (try clear c21); (try clear c21b0); (try clear c22); (try clear c22b0); (try clear p23); (try clear q23); (try clear hx23); (try clear c25); (try clear c25b0); (try clear c26); (try clear c26b0); (try clear c26b1); (try clear c26b2); (try clear hcv29); (try clear c31); (try clear c32); (try clear c32b0); (try clear c32b1); (try clear c32b2); (try clear c34); (try clear c34b0); (try clear c34b1); (try clear c35); (try clear c35b0); (try clear c35b1); (try clear c36); (try clear c36b0); (try clear c36b1); (try clear c37); (try clear c37b0); (try clear c37b1); (try clear p38); (try clear q38); (try clear hx38); (try clear qi38); (try clear c39); (try clear c39b0); (try clear c41); (try clear c41b0); (try clear c42); (try clear c42b0); (try clear p43); (try clear q43); (try clear hx43); (try clear c44); (try clear c44b0); (try clear p45); (try clear q45); (try clear hx45); (try clear p2); (try clear p23); (try clear p3); (try clear p38); (try clear p43); (try clear p45); (try clear p6); (try clear q2); (try clear q23); (try clear q3); (try clear q38); (try clear q43); (try clear q45)
                                  obtain ⟨kq, x94_39, rfl, HA, HJ39, HB⟩ := hcut
                                  cases kq with
                                  | zero => exact absurd HA.out (by simp [stipendlaw08_CodeForms.j7])
                                  | succ kj39 =>
                                    have H := HA.out
                                    clear HA
                                    simp only [stipendlaw08_CodeForms.j7] at H
                                    by_cases c46 : x94_39 = true
                                    · subst c46
                                      have H1 : (stipendlaw08_CodeForms.l0 kj39 a0 a1 a2 x7_5 x8_29 x9_7 false (a2.size : Int) (wrap64 (x82_7 + 1))) = some r := by rw [if_pos rfl] at H; exact H
                                      clear H
                                      have H := H1
                                      clear H1
                                      have H' := AM H
                                      clear H
                                      go_wp2
                                      repeat (go_quiet (fail); try go_wp2)
                                      refine Handed.intro kj39 ?measure30 ?_
                                      rotate_left
                                      refine Go.Proofs.YtodijkdmcjnpkaaDoor.KPatch.meetL (by assumption) ?rel30 ?keep30
                                      case keep30 => repeat (first | exact rfl | refine ⟨rfl, ?_⟩)
                                      case measure30 => have := HJ5.out; have := HJ8.out; have := HJ16.out; have := HJ23.out; have := HJ29.out; have := HJ32.out; have := HK7.out; have := HJ39.out; omega
                                      case rel30 => exact ⟨(x9_7), (false), (wrap64 (x82_7 + 1)), (by first | rfl | (simp; done) | (simp [*]; done)), (by first | rfl | (simp; done) | (simp [*]; done)), (by first | rfl | (simp; done) | (simp [*]; done)), H', ⟨by have := HJ5.out; have := HJ8.out; have := HJ16.out; have := HJ23.out; have := HJ29.out; have := HJ32.out; have := HK7.out; have := HJ39.out; omega⟩, ⟨by repeat (first | (with_reducible first | exact HB.out | apply bA | apply bD | apply b1) | exact HB.out)⟩⟩
                                    replace c46 := Bool.eq_false_iff.mpr c46
                                    subst c46
                                    have H1 : (if x82_7 < 6 then (if 0 ≤ x82_7 then (if x82_7 < (a2.size : Int) then (stipendlaw08_CodeForms.l0 kj39 a0 a1 a2 x7_5 x8_29 (wrap64 ((wrap64 (10 * x9_7)) + (((bt a2 x82_7) - 48) % 256))) x10_7 (a2.size : Int) (wrap64 (x82_7 + 1))) else (none)) else (none)) else (stipendlaw08_CodeForms.l0 kj39 a0 a1 a2 x7_5 x8_29 x9_7 x10_7 (a2.size : Int) (wrap64 (x82_7 + 1)))) = some r := by rw [if_neg (show ¬ (false = true) by decide)] at H; exact H
                                    clear H
                                    have H := H1
                                    clear H1
                                    by_cases c47 : x82_7 < 6
                                    rotate_left
                                    · rw [if_neg c47] at H
                                      have c47b0 := decide_eq_false c47
                                      clear c47
                                      have H' := AM H
                                      clear H
                                      go_wp2
                                      repeat (go_quiet (fail); try go_wp2)
                                      refine Handed.intro kj39 ?measure31 ?_
                                      rotate_left
                                      refine Go.Proofs.YtodijkdmcjnpkaaDoor.KPatch.meetL (by assumption) ?rel31 ?keep31
                                      case keep31 => repeat (first | exact rfl | refine ⟨rfl, ?_⟩)
                                      case measure31 => have := HJ5.out; have := HJ8.out; have := HJ16.out; have := HJ23.out; have := HJ29.out; have := HJ32.out; have := HK7.out; have := HJ39.out; omega
                                      case rel31 => exact ⟨(x9_7), (x10_7), (wrap64 (x82_7 + 1)), (by first | rfl | (simp; done) | (simp [*]; done)), (by first | rfl | (simp; done) | (simp [*]; done)), (by first | rfl | (simp; done) | (simp [*]; done)), H', ⟨by have := HJ5.out; have := HJ8.out; have := HJ16.out; have := HJ23.out; have := HJ29.out; have := HJ32.out; have := HK7.out; have := HJ39.out; omega⟩, ⟨by repeat (first | (with_reducible first | exact HB.out | apply bA | apply bD | apply b1) | exact HB.out)⟩⟩
                                    rw [if_pos c47] at H
                                    have c47b0 := decide_eq_true c47
                                    clear c47
                                    by_cases c48 : 0 ≤ x82_7
                                    rotate_left
                                    · rw [if_neg c48] at H
                                      exact absurd H (by simp)
                                    rw [if_pos c48] at H
                                    have c48b0 := decide_eq_true c48
                                    clear c48
                                    by_cases c49 : x82_7 < (a2.size : Int)
                                    rotate_left
                                    · rw [if_neg c49] at H
                                      exact absurd H (by simp)
                                    rw [if_pos c49] at H
                                    have c49b0 := decide_eq_true c49
                                    clear c49
                                    have H' := AM H
                                    clear H
                                    have p50 : 0 ≤ (x82_7 : Int) := of_decide_eq_true (by first | (with_reducible assumption) | assumption)
                                    have q50 : x82_7 < (a2.size : Int) := of_decide_eq_true (by first | (with_reducible assumption) | assumption)
                                    have hx50 := bt_at a2 x82_7
                                    replace p50 := eq_true p50
                                    replace q50 := eq_true q50
                                    go_wp2
                                    repeat (go_quiet (fail); try go_wp2)
                                    refine Handed.intro kj39 ?measure32 ?_
                                    rotate_left
                                    refine Go.Proofs.YtodijkdmcjnpkaaDoor.KPatch.meetL (by assumption) ?rel32 ?keep32
                                    case keep32 => repeat (first | exact rfl | refine ⟨rfl, ?_⟩)
                                    case measure32 => have := HJ5.out; have := HJ8.out; have := HJ16.out; have := HJ23.out; have := HJ29.out; have := HJ32.out; have := HK7.out; have := HJ39.out; omega
                                    case rel32 => exact ⟨(wrap64 ((wrap64 (10 * x9_7)) + (((bt a2 x82_7) - 48) % 256))), (x10_7), (wrap64 (x82_7 + 1)), (by first | rfl | (simp; done) | (simp [*]; done)), (by first | rfl | (simp; done) | (simp [*]; done)), (by first | rfl | (simp; done) | (simp [*]; done)), H', ⟨by have := HJ5.out; have := HJ8.out; have := HJ16.out; have := HJ23.out; have := HJ29.out; have := HJ32.out; have := HK7.out; have := HJ39.out; omega⟩, ⟨by repeat (first | (with_reducible first | exact HB.out | apply bA | apply bD | apply b1) | exact HB.out)⟩⟩
                              rw [if_neg c39] at H
                              have c39b0 := decide_eq_false c39
                              clear c39
                              have HC51 := AM H
                              clear H
                              go_upto_block 2 with (first | ((with_reducible refine gD (N := 12) rfl ?_); (try (refine gG (by rfl) ?_; dsimp only)); refine bE ?hg (N := 12) ?hd (cs := #[.int .i64 0, .int .i64 0, .int .i64 0, .int .i64 0, .bool false]) (t := 23) ?hr ?_; (case hd => rfl); (case hg => rfl); (case hr => first | (go_simp; done) | (go_simp; rfl)); intro gb240 hg w52 hbox hb; have n0_ := AM (bT bQ hb); have n1_ := AM (hbox); have n2_ := AM ((by rw [hg]; exact (bZ bQ) : w.heap.size ≤ gb240)); have n3_ := AM ((by rw [hg]; exact (bZ bQ) : w.heap.size ≤ gb240)); clear HB; have HB := n0_; have BK240 := n1_; have GW240 := n2_; have GE240 := n3_; clear n0_ n1_ n2_ n3_; clear hb hbox hg; obtain ⟨_, _, _, _, _, _, _, _, _, _⟩ := bX5 BK240.out))
                              repeat (go_quiet (first | ((with_reducible refine gD (N := 12) rfl ?_); (try (refine gG (by rfl) ?_; dsimp only)); refine bE ?hg (N := 12) ?hd (cs := #[.int .i64 0, .int .i64 0, .int .i64 0, .int .i64 0, .bool false]) (t := 23) ?hr ?_; (case hd => rfl); (case hg => rfl); (case hr => first | (go_simp; done) | (go_simp; rfl)); intro gb240 hg w52 hbox hb; have n0_ := AM (bT bQ hb); have n1_ := AM (hbox); have n2_ := AM ((by rw [hg]; exact (bZ bQ) : w.heap.size ≤ gb240)); have n3_ := AM ((by rw [hg]; exact (bZ bQ) : w.heap.size ≤ gb240)); clear HB; have HB := n0_; have BK240 := n1_; have GW240 := n2_; have GE240 := n3_; clear n0_ n1_ n2_ n3_; clear hb hbox hg; obtain ⟨_, _, _, _, _, _, _, _, _, _⟩ := bX5 BK240.out)); go_upto_block 2 with (first | ((with_reducible refine gD (N := 12) rfl ?_); (try (refine gG (by rfl) ?_; dsimp only)); refine bE ?hg (N := 12) ?hd (cs := #[.int .i64 0, .int .i64 0, .int .i64 0, .int .i64 0, .bool false]) (t := 23) ?hr ?_; (case hd => rfl); (case hg => rfl); (case hr => first | (go_simp; done) | (go_simp; rfl)); intro gb240 hg w52 hbox hb; have n0_ := AM (bT bQ hb); have n1_ := AM (hbox); have n2_ := AM ((by rw [hg]; exact (bZ bQ) : w.heap.size ≤ gb240)); have n3_ := AM ((by rw [hg]; exact (bZ bQ) : w.heap.size ≤ gb240)); clear HB; have HB := n0_; have BK240 := n1_; have GW240 := n2_; have GE240 := n3_; clear n0_ n1_ n2_ n3_; clear hb hbox hg; obtain ⟨_, _, _, _, _, _, _, _, _, _⟩ := bX5 BK240.out)))
                              (try simp only [Act.put, List.setIfInBounds_toArray, List.set_cons_zero, List.set_cons_succ])
                              refine Go.Proofs.YtodijkdmcjnpkaaDoor.KPatch.cutU [none, none, none, none, none, none, none, none, none, none, some 10, none, none, some 13, none, none, none, some 17, some 18, some 19, some 20, some 21, some 22, some 23, some 24, some 25, some 26, some 27, some 28, some 29, some 30, some 31, some 32, some 33, some 34, some 35, some 36, some 37, some 38, some 39, some 40, some 41, some 42, some 43, some 44, some 45, some 46, some 47, some 48, some 49, some 50, some 51, some 52, some 53, some 54, some 55, some 56, some 57, some 58, some 59, some 60, some 61, some 62, some 63, some 64, some 65, some 66, some 67, some 68, some 69, some 70, some 71, some 72, some 73, some 74, some 75, some 76, some 77, some 78, some 79, some 80, none, none, some 83, some 84, some 85, some 86, some 87, some 88, some 89, some 90, some 91, some 92, some 93, some 94, some 95, some 96, some 97, some 98, some 99, some 100, some 101, some 102, some 103, some 104, some 105, some 106, some 107, some 108, none, some 110, some 111, some 112, some 113, some 114, some 115, some 116, some 117, some 118, some 119, some 120, some 121, some 122, some 123, some 124, some 125, some 126, some 127, some 128, some 129, some 130, some 131, some 132, some 133, some 134, some 135, some 136, some 137, some 138, some 139, some 140, some 141, some 142, some 143, some 144, none, none, some 147, some 148, some 149, some 150, some 151, some 152, some 153, some 154, some 155, some 156, some 157, some 158, some 159, some 160, some 161, some 162, some 163, some 164, some 165, some 166, some 167, some 168, some 169, some 170, some 171, some 172, some 173, some 174, some 175, some 176, some 177, some 178, some 179, some 180, some 181] (fun (u_ : Nat → Value) (wc : World) => (fun (v10 : Value) (v13 : Value) wc => ∃ (kq : Nat) (x10_50 : Bool) (x13_50 : Int) (x241001_50 : Int) (x241002_50 : Int) (x241003_50 : Int), v10 = .bool x10_50 ∧ v13 = .int .i64 x13_50 ∧ Aside0 (stipendlaw08_CodeForms.j8 kq a0 a2 x8_29 x10_50 x13_50 a0 x241001_50 x241002_50 x241003_50 x7_5 = some r) ∧ Aside0 (kq ≤ k7) ∧ Aside0 (wc.heap[gb240]? = some (.cells #[.int .i64 a0, .int .i64 x241001_50, .int .i64 x241002_50, .int .i64 x241003_50, .bool x7_5] 23 (0, 0))) ∧ Aside0 (Below w.heap.size w wc)) (u_ 10) (u_ 13) wc) ?rest33 ?first33
                              case first33 =>
                                intro J_ K_ hJ_ hK_
                                have H := HC51.out
                                clear HC51
                                by_cases c54 : a1 = 0
                                · rw [if_pos c54] at H
                                  have c54b0 : (a1 == 0) = true := beq_iff_eq.mpr c54
                                  have c54b1 : (a1 != 0) = false := bne_eq_false_iff_eq.mpr c54
                                  clear c54
                                  (first | rw [c54b0] | (simp only [i64_w, i32_w]; rw [c54b0]) | skip)
                                  have H' := AM H
                                  clear H
                                  obtain ⟨_, _, _, _, _, _, _, _, _, _⟩ := bX5 BK240.out
                                  go_wp2
                                  repeat (go_quiet (fail); try go_wp2)
                                  refine Met.intro ?_
                                  refine Go.Proofs.YtodijkdmcjnpkaaDoor.KPatch.meetU (by assumption) ?rel34 ?keep34
                                  case keep34 => repeat (first | exact rfl | refine ⟨rfl, ?_⟩)
                                  case rel34 => exact ⟨_, (x10_7), (0), (1), (wrap64 (1000 * x9_7)), (0), (by first | rfl | (simp; done) | (simp [*]; done)), (by first | rfl | (simp; done) | (simp [*]; done)), H', ⟨by have := HJ5.out; have := HJ8.out; have := HJ16.out; have := HJ23.out; have := HJ29.out; have := HJ32.out; have := HK7.out; first | omega | exact Nat.le_refl _⟩, ⟨by (with_reducible repeat (first | refine kD ?_ _ | refine k1_ ?_ | refine kA ?_ _)); refine kP (cs := #[.int .i64 a0, .int .i64 1, .int .i64 0, .int .i64 0, .bool x7_5]) ?_ 2 _ (by first | rfl | (simp only [u8w]; rfl)); (with_reducible repeat (first | refine kD ?_ _ | refine k1_ ?_ | refine kA ?_ _)); refine kP (cs := #[.int .i64 a0, .int .i64 0, .int .i64 0, .int .i64 0, .bool x7_5]) ?_ 1 _ (by first | rfl | (simp only [u8w]; rfl)); (with_reducible repeat (first | refine kD ?_ _ | refine k1_ ?_ | refine kA ?_ _)); refine kP (cs := #[.int .i64 a0, .int .i64 0, .int .i64 0, .int .i64 0, .bool false]) ?_ 4 _ (by first | rfl | (simp only [u8w]; rfl)); (with_reducible repeat (first | refine kD ?_ _ | refine k1_ ?_ | refine kA ?_ _)); refine kP (cs := #[.int .i64 a0, .int .i64 0, .int .i64 0, .int .i64 0, .bool false]) ?_ 3 _ (by first | rfl | (simp only [u8w]; rfl)); (with_reducible repeat (first | refine kD ?_ _ | refine k1_ ?_ | refine kA ?_ _)); refine kP (cs := #[.int .i64 a0, .int .i64 0, .int .i64 0, .int .i64 0, .bool false]) ?_ 2 _ (by first | rfl | (simp only [u8w]; rfl)); (with_reducible repeat (first | refine kD ?_ _ | refine k1_ ?_ | refine kA ?_ _)); refine kP (cs := #[.int .i64 a0, .int .i64 0, .int .i64 0, .int .i64 0, .bool false]) ?_ 1 _ (by first | rfl | (simp only [u8w]; rfl)); (with_reducible repeat (first | refine kD ?_ _ | refine k1_ ?_ | refine kA ?_ _)); refine kP (cs := #[.int .i64 0, .int .i64 0, .int .i64 0, .int .i64 0, .bool false]) ?_ 0 _ (by first | rfl | (simp only [u8w]; rfl)); (with_reducible repeat (first | refine kD ?_ _ | refine k1_ ?_ | refine kA ?_ _)); exact BK240.out⟩, ⟨by repeat (first | (with_reducible first | exact HB.out | apply bA | apply bD | apply b1 | refine bS ?_ GE240.out) | exact HB.out)⟩⟩
                                rw [if_neg c54] at H
                                have c54b0 : (a1 == 0) = false := beq_eq_false_iff_ne.mpr c54
                                have c54b1 : (a1 != 0) = true := bne_iff_ne.mpr c54
                                (first | rw [c54b0] | (simp only [i64_w, i32_w]; rw [c54b0]) | skip)
                                by_cases c56 : a1 = 1
                                · rw [if_pos c56] at H
                                  have c56b0 : (a1 == 1) = true := beq_iff_eq.mpr c56
                                  have c56b1 : (a1 != 1) = false := bne_eq_false_iff_eq.mpr c56
                                  clear c56
                                  by_cases c57 : x10_7 = true
                                  rotate_left
                                  · replace c57 := Bool.eq_false_iff.mpr c57
                                    subst c57
                                    have H1 : (stipendlaw08_CodeForms.j8 k7 a0 a2 x8_29 false 0 a0 2 (wrap64 (1000 * x9_7)) 0 x7_5) = some r := by rw [if_neg (show ¬ (false = true) by decide)] at H; exact H
                                    clear H
                                    have H := H1
                                    clear H1
                                    have H' := AM H
                                    clear H
                                    obtain ⟨_, _, _, _, _, _, _, _, _, _⟩ := bX5 BK240.out
                                    go_wp2
                                    repeat (go_quiet (fail); try go_wp2)
                                    refine Met.intro ?_
                                    refine Go.Proofs.YtodijkdmcjnpkaaDoor.KPatch.meetU (by assumption) ?rel35 ?keep35
                                    case keep35 => repeat (first | exact rfl | refine ⟨rfl, ?_⟩)
                                    case rel35 => exact ⟨_, (false), (0), (2), (wrap64 (1000 * x9_7)), (0), (by first | rfl | (simp; done) | (simp [*]; done)), (by first | rfl | (simp; done) | (simp [*]; done)), H', ⟨by have := HJ5.out; have := HJ8.out; have := HJ16.out; have := HJ23.out; have := HJ29.out; have := HJ32.out; have := HK7.out; first | omega | exact Nat.le_refl _⟩, ⟨by (with_reducible repeat (first | refine kD ?_ _ | refine k1_ ?_ | refine kA ?_ _)); refine kP (cs := #[.int .i64 a0, .int .i64 2, .int .i64 0, .int .i64 0, .bool x7_5]) ?_ 2 _ (by first | rfl | (simp only [u8w]; rfl)); (with_reducible repeat (first | refine kD ?_ _ | refine k1_ ?_ | refine kA ?_ _)); refine kP (cs := #[.int .i64 a0, .int .i64 0, .int .i64 0, .int .i64 0, .bool x7_5]) ?_ 1 _ (by first | rfl | (simp only [u8w]; rfl)); (with_reducible repeat (first | refine kD ?_ _ | refine k1_ ?_ | refine kA ?_ _)); refine kP (cs := #[.int .i64 a0, .int .i64 0, .int .i64 0, .int .i64 0, .bool false]) ?_ 4 _ (by first | rfl | (simp only [u8w]; rfl)); (with_reducible repeat (first | refine kD ?_ _ | refine k1_ ?_ | refine kA ?_ _)); refine kP (cs := #[.int .i64 a0, .int .i64 0, .int .i64 0, .int .i64 0, .bool false]) ?_ 3 _ (by first | rfl | (simp only [u8w]; rfl)); (with_reducible repeat (first | refine kD ?_ _ | refine k1_ ?_ | refine kA ?_ _)); refine kP (cs := #[.int .i64 a0, .int .i64 0, .int .i64 0, .int .i64 0, .bool false]) ?_ 2 _ (by first | rfl | (simp only [u8w]; rfl)); (with_reducible repeat (first | refine kD ?_ _ | refine k1_ ?_ | refine kA ?_ _)); refine kP (cs := #[.int .i64 a0, .int .i64 0, .int .i64 0, .int .i64 0, .bool false]) ?_ 1 _ (by first | rfl | (simp only [u8w]; rfl)); (with_reducible repeat (first | refine kD ?_ _ | refine k1_ ?_ | refine kA ?_ _)); refine kP (cs := #[.int .i64 0, .int .i64 0, .int .i64 0, .int .i64 0, .bool false]) ?_ 0 _ (by first | rfl | (simp only [u8w]; rfl)); (with_reducible repeat (first | refine kD ?_ _ | refine k1_ ?_ | refine kA ?_ _)); exact BK240.out⟩, ⟨by repeat (first | (with_reducible first | exact HB.out | apply bA | apply bD | apply b1 | refine bS ?_ GE240.out) | exact HB.out)⟩⟩
                                  subst c57
                                  have H1 : (if x9_7 = 0 then (stipendlaw08_CodeForms.j8 k7 a0 a2 x8_29 true 80 a0 2 (wrap64 (1000 * x9_7)) 0 x7_5) else (stipendlaw08_CodeForms.j8 k7 a0 a2 x8_29 true 0 a0 2 (wrap64 (1000 * x9_7)) 0 x7_5)) = some r := by rw [if_pos rfl] at H; exact H
                                  clear H
                                  have H := H1
                                  clear H1
                                  by_cases c58 : x9_7 = 0
                                  rotate_left
                                  · rw [if_neg c58] at H
                                    have c58b0 : (x9_7 == 0) = false := beq_eq_false_iff_ne.mpr c58
                                    have c58b1 : (x9_7 != 0) = true := bne_iff_ne.mpr c58
                                    have H' := AM H
                                    clear H
                                    obtain ⟨_, _, _, _, _, _, _, _, _, _⟩ := bX5 BK240.out
                                    go_wp2
                                    repeat (go_quiet (fail); try go_wp2)
                                    refine Met.intro ?_
                                    refine Go.Proofs.YtodijkdmcjnpkaaDoor.KPatch.meetU (by assumption) ?rel36 ?keep36
                                    case keep36 => repeat (first | exact rfl | refine ⟨rfl, ?_⟩)
                                    case rel36 => exact ⟨_, (true), (0), (2), (wrap64 (1000 * x9_7)), (0), (by first | rfl | (simp; done) | (simp [*]; done)), (by first | rfl | (simp; done) | (simp [*]; done)), H', ⟨by have := HJ5.out; have := HJ8.out; have := HJ16.out; have := HJ23.out; have := HJ29.out; have := HJ32.out; have := HK7.out; first | omega | exact Nat.le_refl _⟩, ⟨by (with_reducible repeat (first | refine kD ?_ _ | refine k1_ ?_ | refine kA ?_ _)); refine kP (cs := #[.int .i64 a0, .int .i64 2, .int .i64 0, .int .i64 0, .bool x7_5]) ?_ 2 _ (by first | rfl | (simp only [u8w]; rfl)); (with_reducible repeat (first | refine kD ?_ _ | refine k1_ ?_ | refine kA ?_ _)); refine kP (cs := #[.int .i64 a0, .int .i64 0, .int .i64 0, .int .i64 0, .bool x7_5]) ?_ 1 _ (by first | rfl | (simp only [u8w]; rfl)); (with_reducible repeat (first | refine kD ?_ _ | refine k1_ ?_ | refine kA ?_ _)); refine kP (cs := #[.int .i64 a0, .int .i64 0, .int .i64 0, .int .i64 0, .bool false]) ?_ 4 _ (by first | rfl | (simp only [u8w]; rfl)); (with_reducible repeat (first | refine kD ?_ _ | refine k1_ ?_ | refine kA ?_ _)); refine kP (cs := #[.int .i64 a0, .int .i64 0, .int .i64 0, .int .i64 0, .bool false]) ?_ 3 _ (by first | rfl | (simp only [u8w]; rfl)); (with_reducible repeat (first | refine kD ?_ _ | refine k1_ ?_ | refine kA ?_ _)); refine kP (cs := #[.int .i64 a0, .int .i64 0, .int .i64 0, .int .i64 0, .bool false]) ?_ 2 _ (by first | rfl | (simp only [u8w]; rfl)); (with_reducible repeat (first | refine kD ?_ _ | refine k1_ ?_ | refine kA ?_ _)); refine kP (cs := #[.int .i64 a0, .int .i64 0, .int .i64 0, .int .i64 0, .bool false]) ?_ 1 _ (by first | rfl | (simp only [u8w]; rfl)); (with_reducible repeat (first | refine kD ?_ _ | refine k1_ ?_ | refine kA ?_ _)); refine kP (cs := #[.int .i64 0, .int .i64 0, .int .i64 0, .int .i64 0, .bool false]) ?_ 0 _ (by first | rfl | (simp only [u8w]; rfl)); (with_reducible repeat (first | refine kD ?_ _ | refine k1_ ?_ | refine kA ?_ _)); exact BK240.out⟩, ⟨by repeat (first | (with_reducible first | exact HB.out | apply bA | apply bD | apply b1 | refine bS ?_ GE240.out) | exact HB.out)⟩⟩
                                  rw [if_pos c58] at H
                                  have c58b0 : (x9_7 == 0) = true := beq_iff_eq.mpr c58
                                  have c58b1 : (x9_7 != 0) = false := bne_eq_false_iff_eq.mpr c58
                                  clear c58
                                  have H' := AM H
                                  clear H
                                  obtain ⟨_, _, _, _, _, _, _, _, _, _⟩ := bX5 BK240.out
                                  go_wp2
                                  repeat (go_quiet (fail); try go_wp2)
                                  refine Met.intro ?_
                                  refine Go.Proofs.YtodijkdmcjnpkaaDoor.KPatch.meetU (by assumption) ?rel37 ?keep37
                                  case keep37 => repeat (first | exact rfl | refine ⟨rfl, ?_⟩)
                                  case rel37 => exact ⟨_, (true), (80), (2), (wrap64 (1000 * x9_7)), (0), (by first | rfl | (simp; done) | (simp [*]; done)), (by first | rfl | (simp; done) | (simp [*]; done)), H', ⟨by have := HJ5.out; have := HJ8.out; have := HJ16.out; have := HJ23.out; have := HJ29.out; have := HJ32.out; have := HK7.out; first | omega | exact Nat.le_refl _⟩, ⟨by (with_reducible repeat (first | refine kD ?_ _ | refine k1_ ?_ | refine kA ?_ _)); refine kP (cs := #[.int .i64 a0, .int .i64 2, .int .i64 0, .int .i64 0, .bool x7_5]) ?_ 2 _ (by first | rfl | (simp only [u8w]; rfl)); (with_reducible repeat (first | refine kD ?_ _ | refine k1_ ?_ | refine kA ?_ _)); refine kP (cs := #[.int .i64 a0, .int .i64 0, .int .i64 0, .int .i64 0, .bool x7_5]) ?_ 1 _ (by first | rfl | (simp only [u8w]; rfl)); (with_reducible repeat (first | refine kD ?_ _ | refine k1_ ?_ | refine kA ?_ _)); refine kP (cs := #[.int .i64 a0, .int .i64 0, .int .i64 0, .int .i64 0, .bool false]) ?_ 4 _ (by first | rfl | (simp only [u8w]; rfl)); (with_reducible repeat (first | refine kD ?_ _ | refine k1_ ?_ | refine kA ?_ _)); refine kP (cs := #[.int .i64 a0, .int .i64 0, .int .i64 0, .int .i64 0, .bool false]) ?_ 3 _ (by first | rfl | (simp only [u8w]; rfl)); (with_reducible repeat (first | refine kD ?_ _ | refine k1_ ?_ | refine kA ?_ _)); refine kP (cs := #[.int .i64 a0, .int .i64 0, .int .i64 0, .int .i64 0, .bool false]) ?_ 2 _ (by first | rfl | (simp only [u8w]; rfl)); (with_reducible repeat (first | refine kD ?_ _ | refine k1_ ?_ | refine kA ?_ _)); refine kP (cs := #[.int .i64 a0, .int .i64 0, .int .i64 0, .int .i64 0, .bool false]) ?_ 1 _ (by first | rfl | (simp only [u8w]; rfl)); (with_reducible repeat (first | refine kD ?_ _ | refine k1_ ?_ | refine kA ?_ _)); refine kP (cs := #[.int .i64 0, .int .i64 0, .int .i64 0, .int .i64 0, .bool false]) ?_ 0 _ (by first | rfl | (simp only [u8w]; rfl)); (with_reducible repeat (first | refine kD ?_ _ | refine k1_ ?_ | refine kA ?_ _)); exact BK240.out⟩, ⟨by repeat (first | (with_reducible first | exact HB.out | apply bA | apply bD | apply b1 | refine bS ?_ GE240.out) | exact HB.out)⟩⟩
                                rw [if_neg c56] at H
                                have c56b0 : (a1 == 1) = false := beq_eq_false_iff_ne.mpr c56
                                have c56b1 : (a1 != 1) = true := bne_iff_ne.mpr c56
                                by_cases c62 : a1 = 2
                                rotate_left
                                · rw [if_neg c62] at H
                                  have c62b0 : (a1 == 2) = false := beq_eq_false_iff_ne.mpr c62
                                  have c62b1 : (a1 != 2) = true := bne_iff_ne.mpr c62
                                  have H' := AM H
                                  clear H
                                  obtain ⟨_, _, _, _, _, _, _, _, _, _⟩ := bX5 BK240.out
                                  go_wp2
                                  repeat (go_quiet (fail); try go_wp2)
                                  refine Met.intro ?_
                                  refine Go.Proofs.YtodijkdmcjnpkaaDoor.KPatch.meetU (by assumption) ?rel38 ?keep38
                                  case keep38 => repeat (first | exact rfl | refine ⟨rfl, ?_⟩)
                                  case rel38 => exact ⟨_, (true), (0), (4), (0), (0), (by first | rfl | (simp; done) | (simp [*]; done)), (by first | rfl | (simp; done) | (simp [*]; done)), H', ⟨by have := HJ5.out; have := HJ8.out; have := HJ16.out; have := HJ23.out; have := HJ29.out; have := HJ32.out; have := HK7.out; first | omega | exact Nat.le_refl _⟩, ⟨by (with_reducible repeat (first | refine kD ?_ _ | refine k1_ ?_ | refine kA ?_ _)); refine kP (cs := #[.int .i64 a0, .int .i64 0, .int .i64 0, .int .i64 0, .bool x7_5]) ?_ 1 _ (by first | rfl | (simp only [u8w]; rfl)); (with_reducible repeat (first | refine kD ?_ _ | refine k1_ ?_ | refine kA ?_ _)); refine kP (cs := #[.int .i64 a0, .int .i64 0, .int .i64 0, .int .i64 0, .bool false]) ?_ 4 _ (by first | rfl | (simp only [u8w]; rfl)); (with_reducible repeat (first | refine kD ?_ _ | refine k1_ ?_ | refine kA ?_ _)); refine kP (cs := #[.int .i64 a0, .int .i64 0, .int .i64 0, .int .i64 0, .bool false]) ?_ 3 _ (by first | rfl | (simp only [u8w]; rfl)); (with_reducible repeat (first | refine kD ?_ _ | refine k1_ ?_ | refine kA ?_ _)); refine kP (cs := #[.int .i64 a0, .int .i64 0, .int .i64 0, .int .i64 0, .bool false]) ?_ 2 _ (by first | rfl | (simp only [u8w]; rfl)); (with_reducible repeat (first | refine kD ?_ _ | refine k1_ ?_ | refine kA ?_ _)); refine kP (cs := #[.int .i64 a0, .int .i64 0, .int .i64 0, .int .i64 0, .bool false]) ?_ 1 _ (by first | rfl | (simp only [u8w]; rfl)); (with_reducible repeat (first | refine kD ?_ _ | refine k1_ ?_ | refine kA ?_ _)); refine kP (cs := #[.int .i64 0, .int .i64 0, .int .i64 0, .int .i64 0, .bool false]) ?_ 0 _ (by first | rfl | (simp only [u8w]; rfl)); (with_reducible repeat (first | refine kD ?_ _ | refine k1_ ?_ | refine kA ?_ _)); exact BK240.out⟩, ⟨by repeat (first | (with_reducible first | exact HB.out | apply bA | apply bD | apply b1 | refine bS ?_ GE240.out) | exact HB.out)⟩⟩
                                rw [if_pos c62] at H
                                have c62b0 : (a1 == 2) = true := beq_iff_eq.mpr c62
                                have c62b1 : (a1 != 2) = false := bne_eq_false_iff_eq.mpr c62
                                clear c62
                                by_cases c63 : x10_7 = true
                                rotate_left
                                · replace c63 := Bool.eq_false_iff.mpr c63
                                  subst c63
                                  have H1 : (stipendlaw08_CodeForms.j8 k7 a0 a2 x8_29 false 0 a0 3 0 x9_7 x7_5) = some r := by rw [if_neg (show ¬ (false = true) by decide)] at H; exact H
                                  clear H
                                  have H := H1
                                  clear H1
                                  have H' := AM H
                                  clear H
                                  obtain ⟨_, _, _, _, _, _, _, _, _, _⟩ := bX5 BK240.out
                                  go_wp2
                                  repeat (go_quiet (fail); try go_wp2)
                                  refine Met.intro ?_
                                  refine Go.Proofs.YtodijkdmcjnpkaaDoor.KPatch.meetU (by assumption) ?rel39 ?keep39
                                  case keep39 => repeat (first | exact rfl | refine ⟨rfl, ?_⟩)
                                  case rel39 => exact ⟨_, (false), (0), (3), (0), (x9_7), (by first | rfl | (simp; done) | (simp [*]; done)), (by first | rfl | (simp; done) | (simp [*]; done)), H', ⟨by have := HJ5.out; have := HJ8.out; have := HJ16.out; have := HJ23.out; have := HJ29.out; have := HJ32.out; have := HK7.out; first | omega | exact Nat.le_refl _⟩, ⟨by (with_reducible repeat (first | refine kD ?_ _ | refine k1_ ?_ | refine kA ?_ _)); refine kP (cs := #[.int .i64 a0, .int .i64 3, .int .i64 0, .int .i64 0, .bool x7_5]) ?_ 3 _ (by first | rfl | (simp only [u8w]; rfl)); (with_reducible repeat (first | refine kD ?_ _ | refine k1_ ?_ | refine kA ?_ _)); refine kP (cs := #[.int .i64 a0, .int .i64 0, .int .i64 0, .int .i64 0, .bool x7_5]) ?_ 1 _ (by first | rfl | (simp only [u8w]; rfl)); (with_reducible repeat (first | refine kD ?_ _ | refine k1_ ?_ | refine kA ?_ _)); refine kP (cs := #[.int .i64 a0, .int .i64 0, .int .i64 0, .int .i64 0, .bool false]) ?_ 4 _ (by first | rfl | (simp only [u8w]; rfl)); (with_reducible repeat (first | refine kD ?_ _ | refine k1_ ?_ | refine kA ?_ _)); refine kP (cs := #[.int .i64 a0, .int .i64 0, .int .i64 0, .int .i64 0, .bool false]) ?_ 3 _ (by first | rfl | (simp only [u8w]; rfl)); (with_reducible repeat (first | refine kD ?_ _ | refine k1_ ?_ | refine kA ?_ _)); refine kP (cs := #[.int .i64 a0, .int .i64 0, .int .i64 0, .int .i64 0, .bool false]) ?_ 2 _ (by first | rfl | (simp only [u8w]; rfl)); (with_reducible repeat (first | refine kD ?_ _ | refine k1_ ?_ | refine kA ?_ _)); refine kP (cs := #[.int .i64 a0, .int .i64 0, .int .i64 0, .int .i64 0, .bool false]) ?_ 1 _ (by first | rfl | (simp only [u8w]; rfl)); (with_reducible repeat (first | refine kD ?_ _ | refine k1_ ?_ | refine kA ?_ _)); refine kP (cs := #[.int .i64 0, .int .i64 0, .int .i64 0, .int .i64 0, .bool false]) ?_ 0 _ (by first | rfl | (simp only [u8w]; rfl)); (with_reducible repeat (first | refine kD ?_ _ | refine k1_ ?_ | refine kA ?_ _)); exact BK240.out⟩, ⟨by repeat (first | (with_reducible first | exact HB.out | apply bA | apply bD | apply b1 | refine bS ?_ GE240.out) | exact HB.out)⟩⟩
                                subst c63
                                have H1 : (if x9_7 > 7 then (stipendlaw08_CodeForms.j8 k7 a0 a2 x8_29 true 80 a0 3 0 x9_7 x7_5) else (stipendlaw08_CodeForms.j8 k7 a0 a2 x8_29 true 0 a0 3 0 x9_7 x7_5)) = some r := by rw [if_pos rfl] at H; exact H
                                clear H
                                have H := H1
                                clear H1
                                by_cases c64 : x9_7 > 7
                                · rw [if_pos c64] at H
                                  have c64b0 : decide (7 < x9_7) = true := decide_eq_true c64
                                  clear c64
                                  have H' := AM H
                                  clear H
                                  obtain ⟨_, _, _, _, _, _, _, _, _, _⟩ := bX5 BK240.out
                                  go_wp2
                                  repeat (go_quiet (fail); try go_wp2)
                                  refine Met.intro ?_
                                  refine Go.Proofs.YtodijkdmcjnpkaaDoor.KPatch.meetU (by assumption) ?rel40 ?keep40
                                  case keep40 => repeat (first | exact rfl | refine ⟨rfl, ?_⟩)
                                  case rel40 => exact ⟨_, (true), (80), (3), (0), (x9_7), (by first | rfl | (simp; done) | (simp [*]; done)), (by first | rfl | (simp; done) | (simp [*]; done)), H', ⟨by have := HJ5.out; have := HJ8.out; have := HJ16.out; have := HJ23.out; have := HJ29.out; have := HJ32.out; have := HK7.out; first | omega | exact Nat.le_refl _⟩, ⟨by (with_reducible repeat (first | refine kD ?_ _ | refine k1_ ?_ | refine kA ?_ _)); refine kP (cs := #[.int .i64 a0, .int .i64 3, .int .i64 0, .int .i64 0, .bool x7_5]) ?_ 3 _ (by first | rfl | (simp only [u8w]; rfl)); (with_reducible repeat (first | refine kD ?_ _ | refine k1_ ?_ | refine kA ?_ _)); refine kP (cs := #[.int .i64 a0, .int .i64 0, .int .i64 0, .int .i64 0, .bool x7_5]) ?_ 1 _ (by first | rfl | (simp only [u8w]; rfl)); (with_reducible repeat (first | refine kD ?_ _ | refine k1_ ?_ | refine kA ?_ _)); refine kP (cs := #[.int .i64 a0, .int .i64 0, .int .i64 0, .int .i64 0, .bool false]) ?_ 4 _ (by first | rfl | (simp only [u8w]; rfl)); (with_reducible repeat (first | refine kD ?_ _ | refine k1_ ?_ | refine kA ?_ _)); refine kP (cs := #[.int .i64 a0, .int .i64 0, .int .i64 0, .int .i64 0, .bool false]) ?_ 3 _ (by first | rfl | (simp only [u8w]; rfl)); (with_reducible repeat (first | refine kD ?_ _ | refine k1_ ?_ | refine kA ?_ _)); refine kP (cs := #[.int .i64 a0, .int .i64 0, .int .i64 0, .int .i64 0, .bool false]) ?_ 2 _ (by first | rfl | (simp only [u8w]; rfl)); (with_reducible repeat (first | refine kD ?_ _ | refine k1_ ?_ | refine kA ?_ _)); refine kP (cs := #[.int .i64 a0, .int .i64 0, .int .i64 0, .int .i64 0, .bool false]) ?_ 1 _ (by first | rfl | (simp only [u8w]; rfl)); (with_reducible repeat (first | refine kD ?_ _ | refine k1_ ?_ | refine kA ?_ _)); refine kP (cs := #[.int .i64 0, .int .i64 0, .int .i64 0, .int .i64 0, .bool false]) ?_ 0 _ (by first | rfl | (simp only [u8w]; rfl)); (with_reducible repeat (first | refine kD ?_ _ | refine k1_ ?_ | refine kA ?_ _)); exact BK240.out⟩, ⟨by repeat (first | (with_reducible first | exact HB.out | apply bA | apply bD | apply b1 | refine bS ?_ GE240.out) | exact HB.out)⟩⟩
                                rw [if_neg c64] at H
                                have c64b0 : decide (7 < x9_7) = false := decide_eq_false c64
                                clear c64
                                have H' := AM H
                                clear H
                                obtain ⟨_, _, _, _, _, _, _, _, _, _⟩ := bX5 BK240.out
                                go_wp2
                                repeat (go_quiet (fail); try go_wp2)
                                refine Met.intro ?_
                                refine Go.Proofs.YtodijkdmcjnpkaaDoor.KPatch.meetU (by assumption) ?rel41 ?keep41
                                case keep41 => repeat (first | exact rfl | refine ⟨rfl, ?_⟩)
                                case rel41 => exact ⟨_, (true), (0), (3), (0), (x9_7), (by first | rfl | (simp; done) | (simp [*]; done)), (by first | rfl | (simp; done) | (simp [*]; done)), H', ⟨by have := HJ5.out; have := HJ8.out; have := HJ16.out; have := HJ23.out; have := HJ29.out; have := HJ32.out; have := HK7.out; first | omega | exact Nat.le_refl _⟩, ⟨by (with_reducible repeat (first | refine kD ?_ _ | refine k1_ ?_ | refine kA ?_ _)); refine kP (cs := #[.int .i64 a0, .int .i64 3, .int .i64 0, .int .i64 0, .bool x7_5]) ?_ 3 _ (by first | rfl | (simp only [u8w]; rfl)); (with_reducible repeat (first | refine kD ?_ _ | refine k1_ ?_ | refine kA ?_ _)); refine kP (cs := #[.int .i64 a0, .int .i64 0, .int .i64 0, .int .i64 0, .bool x7_5]) ?_ 1 _ (by first | rfl | (simp only [u8w]; rfl)); (with_reducible repeat (first | refine kD ?_ _ | refine k1_ ?_ | refine kA ?_ _)); refine kP (cs := #[.int .i64 a0, .int .i64 0, .int .i64 0, .int .i64 0, .bool false]) ?_ 4 _ (by first | rfl | (simp only [u8w]; rfl)); (with_reducible repeat (first | refine kD ?_ _ | refine k1_ ?_ | refine kA ?_ _)); refine kP (cs := #[.int .i64 a0, .int .i64 0, .int .i64 0, .int .i64 0, .bool false]) ?_ 3 _ (by first | rfl | (simp only [u8w]; rfl)); (with_reducible repeat (first | refine kD ?_ _ | refine k1_ ?_ | refine kA ?_ _)); refine kP (cs := #[.int .i64 a0, .int .i64 0, .int .i64 0, .int .i64 0, .bool false]) ?_ 2 _ (by first | rfl | (simp only [u8w]; rfl)); (with_reducible repeat (first | refine kD ?_ _ | refine k1_ ?_ | refine kA ?_ _)); refine kP (cs := #[.int .i64 a0, .int .i64 0, .int .i64 0, .int .i64 0, .bool false]) ?_ 1 _ (by first | rfl | (simp only [u8w]; rfl)); (with_reducible repeat (first | refine kD ?_ _ | refine k1_ ?_ | refine kA ?_ _)); refine kP (cs := #[.int .i64 0, .int .i64 0, .int .i64 0, .int .i64 0, .bool false]) ?_ 0 _ (by first | rfl | (simp only [u8w]; rfl)); (with_reducible repeat (first | refine kD ?_ _ | refine k1_ ?_ | refine kA ?_ _)); exact BK240.out⟩, ⟨by repeat (first | (with_reducible first | exact HB.out | apply bA | apply bD | apply b1 | refine bS ?_ GE240.out) | exact HB.out)⟩⟩
                              case rest33 =>
                                intro u_ wc hcut
                                dsimp only [Go.Proofs.YtodijkdmcjnpkaaDoor.KPatch.patch]
                                generalize u_ 10 = u10 at hcut ⊢
                                generalize u_ 13 = u13 at hcut ⊢
                                clear HC51
                                (try clear c1); (try clear c2); (try clear p2); (try clear q2); (try clear hx2); (try clear hcv2); (try clear c3); (try clear p3); (try clear q3); (try clear hx3); (try clear qi3); (try clear c4); (try clear p4); (try clear q4); (try clear hx4); (try clear c5); (try clear p5); (try clear q5); (try clear hx5); (try clear c6); (try clear p6); (try clear c8); (try clear c8b0); (try clear c8b1); (try clear c10); (try clear c10b0); (try clear c10b1); (try clear c11); (try clear c11b0); (try clear c12); (try clear c12b0); (try clear c13); (try clear c13b0); (try clear c14); (try clear c15); (try clear c15b0); (try clear c15b1); (try clear c15b2); (try clear c16); (try clear c16b0); (try clear c16b1); (try clear c16b2); (try clear c18); (try clear c18b0); (try clear c18b1); (try clear c19); (try clear c19b0); (try clear c19b1); (try clear c20); (try clear c20b0); (try clear c20b1); (try clear c21); (try clear c21b0); (try clear c22); (try clear c22b0); (try clear p23); (try clear q23); (try clear hx23); (try clear c25); (try clear c25b0); (try clear c26); (try clear c26b0); (try clear c26b1); (try clear c26b2); (try clear hcv29); (try clear c31); (try clear c32); (try clear c32b0); (try clear c32b1); (try clear c32b2); (try clear c34); (try clear c34b0); (try clear c34b1); (try clear c35); (try clear c35b0); (try clear c35b1); (try clear c36); (try clear c36b0); (try clear c36b1); (try clear c37); (try clear c37b0); (try clear c37b1); (try clear p38); (try clear q38); (try clear hx38); (try clear qi38); (try clear c39); (try clear c39b0); (try clear c41); (try clear c41b0); (try clear c42); (try clear c42b0); (try clear p43); (try clear q43); (try clear hx43); (try clear c44); (try clear c44b0); (try clear p45); (try clear q45); (try clear hx45); (try clear c46); (try clear c47); (try clear c47b0); (try clear c48); (try clear c48b0); (try clear c49); (try clear c49b0); (try clear p50); (try clear q50); (try clear hx50); (try clear c54); (try clear c54b0); (try clear c54b1); (try clear c56); (try clear c56b0); (try clear c56b1); (try clear c57); (try clear c58); (try clear c58b0); (try clear c58b1); (try clear c62); (try clear c62b0); (try clear c62b1); (try clear c63); (try clear c64); (try clear c64b0); (try clear p64); (try clear hcz53_0); (try clear hcz53_1); (try clear hcz53_2); (try clear hcz53_3); (try clear hcz53_4); (try clear hcz55_0); (try clear hcz55_1); (try clear hcz55_2); (try clear hcz55_3); (try clear hcz55_4); (try clear hcz59_0); (try clear hcz59_1); (try clear hcz59_2); (try clear hcz59_3); (try clear hcz59_4); (try clear hcz60_0); (try clear hcz60_1); (try clear hcz60_2); (try clear hcz60_3); (try clear hcz60_4); (try clear hcz61_0); (try clear hcz61_1); (try clear hcz61_2); (try clear hcz61_3); (try clear hcz61_4); (try clear hcz65_0); (try clear hcz65_1); (try clear hcz65_2); (try clear hcz65_3); (try clear hcz65_4); (try clear hcz66_0); (try clear hcz66_1); (try clear hcz66_2); (try clear hcz66_3); (try clear hcz66_4); (try clear hcz67_0); (try clear hcz67_1); (try clear hcz67_2); (try clear hcz67_3); (try clear hcz67_4); (try clear hcz68_0); (try clear hcz68_1); (try clear hcz68_2); (try clear hcz68_3); (try clear hcz68_4); (try clear hfz53_0); (try clear hfz53_1); (try clear hfz53_2); (try clear hfz53_3); (try clear hfz53_4); (try clear hfz55_0); (try clear hfz55_1); (try clear hfz55_2); (try clear hfz55_3); (try clear hfz55_4); (try clear hfz59_0); (try clear hfz59_1); (try clear hfz59_2); (try clear hfz59_3); (try clear hfz59_4); (try clear hfz60_0); (try clear hfz60_1); (try clear hfz60_2); (try clear hfz60_3); (try clear hfz60_4); (try clear hfz61_0); (try clear hfz61_1); (try clear hfz61_2); (try clear hfz61_3); (try clear hfz61_4); (try clear hfz65_0); (try clear hfz65_1); (try clear hfz65_2); (try clear hfz65_3); (try clear hfz65_4); (try clear hfz66_0); (try clear hfz66_1); (try clear hfz66_2); (try clear hfz66_3); (try clear hfz66_4); (try clear hfz67_0); (try clear hfz67_1); (try clear hfz67_2); (try clear hfz67_3); (try clear hfz67_4); (try clear hfz68_0); (try clear hfz68_1); (try clear hfz68_2); (try clear hfz68_3); (try clear hfz68_4); (try clear p2); (try clear p23); (try clear p3); (try clear p38); (try clear p4); (try clear p43); (try clear p45); (try clear p50); (try clear p6); (try clear q2); (try clear q23); (try clear q3); (try clear q38); (try clear q4); (try clear q43); (try clear q45); (try clear q50)
                                obtain ⟨kq, x10_50, x13_50, x241001_50, x241002_50, x241003_50, rfl, rfl, HA, HJ50, BK240, HB⟩ := hcut
                                cases kq with
                                | zero => exact absurd HA.out (by simp [stipendlaw08_CodeForms.j8])
                                | succ kj50 =>
                                  have H := HA.out
                                  clear HA
                                  simp only [stipendlaw08_CodeForms.j8] at H
                                  have HC69 := AM H
                                  clear H
                                  go_upto_region 33 with (fail)
                                  repeat (go_quiet (fail); go_upto_region 33 with (fail))
                                  refine Go.Proofs.YtodijkdmcjnpkaaDoor.KPatch.cutU [none, none, none, none, none, none, none, none, none, none, none, none, none, none, none, none, none, some 17, some 18, some 19, some 20, some 21, some 22, some 23, some 24, some 25, some 26, some 27, some 28, some 29, some 30, some 31, some 32, some 33, some 34, some 35, some 36, some 37, some 38, some 39, some 40, some 41, some 42, some 43, some 44, some 45, some 46, some 47, some 48, some 49, some 50, some 51, some 52, some 53, some 54, some 55, some 56, some 57, some 58, some 59, some 60, some 61, some 62, some 63, some 64, some 65, some 66, some 67, some 68, some 69, some 70, some 71, some 72, some 73, some 74, some 75, some 76, some 77, some 78, some 79, some 80, none, none, some 83, some 84, some 85, some 86, some 87, some 88, some 89, some 90, some 91, some 92, some 93, some 94, some 95, some 96, some 97, some 98, some 99, some 100, some 101, some 102, some 103, some 104, some 105, some 106, some 107, some 108, none, some 110, none, some 112, some 113, some 114, some 115, some 116, none, some 118, some 119, some 120, some 121, some 122, some 123, some 124, some 125, some 126, some 127, none, some 129, some 130, some 131, some 132, some 133, some 134, some 135, some 136, some 137, some 138, some 139, some 140, some 141, some 142, some 143, some 144, none, none, some 147, some 148, some 149, some 150, some 151, some 152, some 153, some 154, some 155, some 156, some 157, some 158, some 159, some 160, some 161, some 162, some 163, some 164, some 165, some 166, some 167, some 168, some 169, some 170, some 171, some 172, some 173, some 174, some 175, some 176, some 177, some 178, some 179, some 180, some 181] (fun (u_ : Nat → Value) (wc : World) => (fun (v143 : Value) wc => ∃ (kq : Nat) (x143_68 : Bool), v143 = .bool x143_68 ∧ Aside0 (stipendlaw08_CodeForms.j9 kq a2 x8_29 x13_50 x143_68 a0 x241001_50 x241002_50 x241003_50 x7_5 = some r) ∧ Aside0 (kq ≤ kj50) ∧ Aside0 (wc.heap[gb240]? = some (.cells #[.int .i64 a0, .int .i64 x241001_50, .int .i64 x241002_50, .int .i64 x241003_50, .bool x7_5] 23 (0, 0))) ∧ Aside0 (Below w.heap.size w wc)) (u_ 143) wc) ?rest42 ?first42
                                  case first42 =>
                                    intro J_ K_ hJ_ hK_
                                    have H := HC69.out
                                    clear HC69
                                    by_cases c70 : x10_50 = true
                                    · subst c70
                                      have H1 : (stipendlaw08_CodeForms.j9 kj50 a2 x8_29 x13_50 (decide (a0 > 7)) a0 x241001_50 x241002_50 x241003_50 x7_5) = some r := by rw [if_pos rfl] at H; exact H
                                      clear H
                                      have H := H1
                                      clear H1
                                      have H' := AM H
                                      clear H
                                      go_wp2
                                      repeat (go_quiet (fail); try go_wp2)
                                      refine Met.intro ?_
                                      refine Go.Proofs.YtodijkdmcjnpkaaDoor.KPatch.meetU (by assumption) ?rel43 ?keep43
                                      case keep43 => repeat (first | exact rfl | refine ⟨rfl, ?_⟩)
                                      case rel43 => exact ⟨_, (decide (a0 > 7)), (by first | rfl | (simp; done) | (simp [*]; done)), H', ⟨by have := HJ5.out; have := HJ8.out; have := HJ16.out; have := HJ23.out; have := HJ29.out; have := HJ32.out; have := HK7.out; have := HJ50.out; first | omega | exact Nat.le_refl _⟩, ⟨by (with_reducible repeat (first | refine kD ?_ _ | refine k1_ ?_ | refine kA ?_ _)); exact BK240.out⟩, ⟨by repeat (first | (with_reducible first | exact HB.out | apply bA | apply bD | apply b1 | refine bS ?_ GE240.out) | exact HB.out)⟩⟩
                                    replace c70 := Bool.eq_false_iff.mpr c70
                                    subst c70
                                    have H1 : (stipendlaw08_CodeForms.j9 kj50 a2 x8_29 x13_50 true a0 x241001_50 x241002_50 x241003_50 x7_5) = some r := by rw [if_neg (show ¬ (false = true) by decide)] at H; exact H
                                    clear H
                                    have H := H1
                                    clear H1
                                    have H' := AM H
                                    clear H
                                    go_wp2
                                    repeat (go_quiet (fail); try go_wp2)
                                    refine Met.intro ?_
                                    refine Go.Proofs.YtodijkdmcjnpkaaDoor.KPatch.meetU (by assumption) ?rel44 ?keep44
                                    case keep44 => repeat (first | exact rfl | refine ⟨rfl, ?_⟩)
                                    case rel44 => exact ⟨_, (true), (by first | rfl | (simp; done) | (simp [*]; done)), H', ⟨by have := HJ5.out; have := HJ8.out; have := HJ16.out; have := HJ23.out; have := HJ29.out; have := HJ32.out; have := HK7.out; have := HJ50.out; first | omega | exact Nat.le_refl _⟩, ⟨by (with_reducible repeat (first | refine kD ?_ _ | refine k1_ ?_ | refine kA ?_ _)); exact BK240.out⟩, ⟨by repeat (first | (with_reducible first | exact HB.out | apply bA | apply bD | apply b1 | refine bS ?_ GE240.out) | exact HB.out)⟩⟩
                                  case rest42 =>
                                    intro u_ wc hcut
                                    dsimp only [Go.Proofs.YtodijkdmcjnpkaaDoor.KPatch.patch]
                                    generalize u_ 143 = u143 at hcut ⊢
                                    clear HC69
                                    (try clear c1); (try clear c2); (try clear p2); (try clear q2); (try clear hx2); (try clear hcv2); (try clear c3); (try clear p3); (try clear q3); (try clear hx3); (try clear qi3); (try clear c4); (try clear p4); (try clear q4); (try clear hx4); (try clear c5); (try clear p5); (try clear q5); (try clear hx5); (try clear c6); (try clear p6); (try clear c7); (try clear c8); (try clear c8b0); (try clear c8b1); (try clear c10); (try clear c10b0); (try clear c10b1); (try clear c11); (try clear c11b0); (try clear c12); (try clear c12b0); (try clear c13); (try clear c13b0); (try clear c14); (try clear c15); (try clear c15b0); (try clear c15b1); (try clear c15b2); (try clear c16); (try clear c16b0); (try clear c16b1); (try clear c16b2); (try clear c18); (try clear c18b0); (try clear c18b1); (try clear c19); (try clear c19b0); (try clear c19b1); (try clear c20); (try clear c20b0); (try clear c20b1); (try clear c21); (try clear c21b0); (try clear c22); (try clear c22b0); (try clear p23); (try clear q23); (try clear hx23); (try clear c25); (try clear c25b0); (try clear c26); (try clear c26b0); (try clear c26b1); (try clear c26b2); (try clear hcv29); (try clear c31); (try clear c32); (try clear c32b0); (try clear c32b1); (try clear c32b2); (try clear c34); (try clear c34b0); (try clear c34b1); (try clear c35); (try clear c35b0); (try clear c35b1); (try clear c36); (try clear c36b0); (try clear c36b1); (try clear c37); (try clear c37b0); (try clear c37b1); (try clear p38); (try clear q38); (try clear hx38); (try clear qi38); (try clear c39); (try clear c39b0); (try clear c41); (try clear c41b0); (try clear c42); (try clear c42b0); (try clear p43); (try clear q43); (try clear hx43); (try clear c44); (try clear c44b0); (try clear p45); (try clear q45); (try clear hx45); (try clear c46); (try clear c47); (try clear c47b0); (try clear c48); (try clear c48b0); (try clear c49); (try clear c49b0); (try clear p50); (try clear q50); (try clear hx50); (try clear c54); (try clear c54b0); (try clear c54b1); (try clear c56); (try clear c56b0); (try clear c56b1); (try clear c57); (try clear c58); (try clear c58b0); (try clear c58b1); (try clear c62); (try clear c62b0); (try clear c62b1); (try clear c63); (try clear c64); (try clear c64b0); (try clear p64); (try clear c70); (try clear hcz53_0); (try clear hcz53_1); (try clear hcz53_2); (try clear hcz53_3); (try clear hcz53_4); (try clear hcz55_0); (try clear hcz55_1); (try clear hcz55_2); (try clear hcz55_3); (try clear hcz55_4); (try clear hcz59_0); (try clear hcz59_1); (try clear hcz59_2); (try clear hcz59_3); (try clear hcz59_4); (try clear hcz60_0); (try clear hcz60_1); (try clear hcz60_2); (try clear hcz60_3); (try clear hcz60_4); (try clear hcz61_0); (try clear hcz61_1); (try clear hcz61_2); (try clear hcz61_3); (try clear hcz61_4); (try clear hcz65_0); (try clear hcz65_1); (try clear hcz65_2); (try clear hcz65_3); (try clear hcz65_4); (try clear hcz66_0); (try clear hcz66_1); (try clear hcz66_2); (try clear hcz66_3); (try clear hcz66_4); (try clear hcz67_0); (try clear hcz67_1); (try clear hcz67_2); (try clear hcz67_3); (try clear hcz67_4); (try clear hcz68_0); (try clear hcz68_1); (try clear hcz68_2); (try clear hcz68_3); (try clear hcz68_4); (try clear hfz53_0); (try clear hfz53_1); (try clear hfz53_2); (try clear hfz53_3); (try clear hfz53_4); (try clear hfz55_0); (try clear hfz55_1); (try clear hfz55_2); (try clear hfz55_3); (try clear hfz55_4); (try clear hfz59_0); (try clear hfz59_1); (try clear hfz59_2); (try clear hfz59_3); (try clear hfz59_4); (try clear hfz60_0); (try clear hfz60_1); (try clear hfz60_2); (try clear hfz60_3); (try clear hfz60_4); (try clear hfz61_0); (try clear hfz61_1); (try clear hfz61_2); (try clear hfz61_3); (try clear hfz61_4); (try clear hfz65_0); (try clear hfz65_1); (try clear hfz65_2); (try clear hfz65_3); (try clear hfz65_4); (try clear hfz66_0); (try clear hfz66_1); (try clear hfz66_2); (try clear hfz66_3); (try clear hfz66_4); (try clear hfz67_0); (try clear hfz67_1); (try clear hfz67_2); (try clear hfz67_3); (try clear hfz67_4); (try clear hfz68_0); (try clear hfz68_1); (try clear hfz68_2); (try clear hfz68_3); (try clear hfz68_4); (try clear p2); (try clear p23); (try clear p3); (try clear p38); (try clear p4); (try clear p43); (try clear p45); (try clear p5); (try clear p50); (try clear p6); (try clear p64); (try clear q2); (try clear q23); (try clear q3); (try clear q38); (try clear q4); (try clear q43); (try clear q45); (try clear q5); (try clear q50)
                                    obtain ⟨kq, x143_68, rfl, HA, HJ68, BK240, HB⟩ := hcut
                                    cases kq with
                                    | zero => exact absurd HA.out (by simp [stipendlaw08_CodeForms.j9])
                                    | succ kj68 =>
                                      have H := HA.out
                                      clear HA
                                      simp only [stipendlaw08_CodeForms.j9] at H
                                      have HC71 := AM H
                                      clear H
                                      go_upto_if 143 with (fail)
                                      repeat (go_quiet (fail); go_upto_if 143 with (fail))
                                      refine Go.Proofs.YtodijkdmcjnpkaaDoor.KPatch.cutU [none, none, none, none, none, none, none, none, none, none, none, none, none, some 13, none, none, none, some 17, some 18, some 19, some 20, some 21, some 22, some 23, some 24, some 25, some 26, some 27, some 28, some 29, some 30, some 31, some 32, some 33, some 34, some 35, some 36, some 37, some 38, some 39, some 40, some 41, some 42, some 43, some 44, some 45, some 46, some 47, some 48, some 49, some 50, some 51, some 52, some 53, some 54, some 55, some 56, some 57, some 58, some 59, some 60, some 61, some 62, some 63, some 64, some 65, some 66, some 67, some 68, some 69, some 70, some 71, some 72, some 73, some 74, some 75, some 76, some 77, some 78, some 79, some 80, none, none, some 83, some 84, some 85, some 86, some 87, some 88, some 89, some 90, some 91, some 92, some 93, some 94, some 95, some 96, some 97, some 98, some 99, some 100, some 101, some 102, some 103, some 104, some 105, some 106, some 107, some 108, none, some 110, none, some 112, some 113, some 114, some 115, some 116, none, some 118, some 119, some 120, some 121, some 122, some 123, some 124, some 125, some 126, some 127, none, some 129, some 130, some 131, some 132, some 133, some 134, some 135, some 136, some 137, some 138, some 139, some 140, some 141, some 142, some 143, some 144, none, none, some 147, some 148, some 149, some 150, some 151, some 152, some 153, some 154, some 155, some 156, some 157, some 158, some 159, some 160, some 161, some 162, some 163, some 164, some 165, some 166, some 167, some 168, some 169, some 170, some 171, some 172, some 173, some 174, some 175, some 176, some 177, some 178, some 179, some 180, some 181] (fun (u_ : Nat → Value) (wc : World) => (fun (v13 : Value) wc => ∃ (kq : Nat) (x13_70 : Int), v13 = .int .i64 x13_70 ∧ Aside0 (stipendlaw08_CodeForms.j10 kq a2 x8_29 x13_70 a0 x241001_50 x241002_50 x241003_50 x7_5 = some r) ∧ Aside0 (kq ≤ kj68) ∧ Aside0 (wc.heap[gb240]? = some (.cells #[.int .i64 a0, .int .i64 x241001_50, .int .i64 x241002_50, .int .i64 x241003_50, .bool x7_5] 23 (0, 0))) ∧ Aside0 (Below w.heap.size w wc)) (u_ 13) wc) ?rest45 ?first45
                                      case first45 =>
                                        intro J_ K_ hJ_ hK_
                                        have H := HC71.out
                                        clear HC71
                                        by_cases c72 : x143_68 = true
                                        · subst c72
                                          have H1 : (stipendlaw08_CodeForms.j10 kj68 a2 x8_29 5 a0 x241001_50 x241002_50 x241003_50 x7_5) = some r := by rw [if_pos rfl] at H; exact H
                                          clear H
                                          have H := H1
                                          clear H1
                                          have H' := AM H
                                          clear H
                                          go_wp2
                                          repeat (go_quiet (fail); try go_wp2)
                                          refine Met.intro ?_
                                          refine Go.Proofs.YtodijkdmcjnpkaaDoor.KPatch.meetU (by assumption) ?rel46 ?keep46
                                          case keep46 => repeat (first | exact rfl | refine ⟨rfl, ?_⟩)
                                          case rel46 => exact ⟨_, (5), (by first | rfl | (simp; done) | (simp [*]; done)), H', ⟨by have := HJ5.out; have := HJ8.out; have := HJ16.out; have := HJ23.out; have := HJ29.out; have := HJ32.out; have := HK7.out; have := HJ50.out; have := HJ68.out; first | omega | exact Nat.le_refl _⟩, ⟨by (with_reducible repeat (first | refine kD ?_ _ | refine k1_ ?_ | refine kA ?_ _)); exact BK240.out⟩, ⟨by repeat (first | (with_reducible first | exact HB.out | apply bA | apply bD | apply b1 | refine bS ?_ GE240.out) | exact HB.out)⟩⟩
                                        replace c72 := Bool.eq_false_iff.mpr c72
                                        subst c72
                                        have H1 : (stipendlaw08_CodeForms.j10 kj68 a2 x8_29 x13_50 a0 x241001_50 x241002_50 x241003_50 x7_5) = some r := by rw [if_neg (show ¬ (false = true) by decide)] at H; exact H
                                        clear H
                                        have H := H1
                                        clear H1
                                        have H' := AM H
                                        clear H
                                        go_wp2
                                        repeat (go_quiet (fail); try go_wp2)
                                        refine Met.intro ?_
                                        refine Go.Proofs.YtodijkdmcjnpkaaDoor.KPatch.meetU (by assumption) ?rel47 ?keep47
                                        case keep47 => repeat (first | exact rfl | refine ⟨rfl, ?_⟩)
                                        case rel47 => exact ⟨_, (x13_50), (by first | rfl | (simp; done) | (simp [*]; done)), H', ⟨by have := HJ5.out; have := HJ8.out; have := HJ16.out; have := HJ23.out; have := HJ29.out; have := HJ32.out; have := HK7.out; have := HJ50.out; have := HJ68.out; first | omega | exact Nat.le_refl _⟩, ⟨by (with_reducible repeat (first | refine kD ?_ _ | refine k1_ ?_ | refine kA ?_ _)); exact BK240.out⟩, ⟨by repeat (first | (with_reducible first | exact HB.out | apply bA | apply bD | apply b1 | refine bS ?_ GE240.out) | exact HB.out)⟩⟩
                                      case rest45 =>
                                        intro u_ wc hcut
                                        dsimp only [Go.Proofs.YtodijkdmcjnpkaaDoor.KPatch.patch]
                                        generalize u_ 13 = u13 at hcut ⊢
                                        clear HC71
                                        (try clear c1); (try clear c2); (try clear p2); (try clear q2); (try clear hx2); (try clear hcv2); (try clear c3); (try clear p3); (try clear q3); (try clear hx3); (try clear qi3); (try clear c4); (try clear p4); (try clear q4); (try clear hx4); (try clear c5); (try clear p5); (try clear q5); (try clear hx5); (try clear c6); (try clear p6); (try clear c7); (try clear c8); (try clear c8b0); (try clear c8b1); (try clear c10); (try clear c10b0); (try clear c10b1); (try clear c11); (try clear c11b0); (try clear c12); (try clear c12b0); (try clear c13); (try clear c13b0); (try clear c14); (try clear c15); (try clear c15b0); (try clear c15b1); (try clear c15b2); (try clear c16); (try clear c16b0); (try clear c16b1); (try clear c16b2); (try clear c18); (try clear c18b0); (try clear c18b1); (try clear c19); (try clear c19b0); (try clear c19b1); (try clear c20); (try clear c20b0); (try clear c20b1); (try clear c21); (try clear c21b0); (try clear c22); (try clear c22b0); (try clear p23); (try clear q23); (try clear hx23); (try clear c25); (try clear c25b0); (try clear c26); (try clear c26b0); (try clear c26b1); (try clear c26b2); (try clear hcv29); (try clear c31); (try clear c32); (try clear c32b0); (try clear c32b1); (try clear c32b2); (try clear c34); (try clear c34b0); (try clear c34b1); (try clear c35); (try clear c35b0); (try clear c35b1); (try clear c36); (try clear c36b0); (try clear c36b1); (try clear c37); (try clear c37b0); (try clear c37b1); (try clear p38); (try clear q38); (try clear hx38); (try clear qi38); (try clear c39); (try clear c39b0); (try clear c41); (try clear c41b0); (try clear c42); (try clear c42b0); (try clear p43); (try clear q43); (try clear hx43); (try clear c44); (try clear c44b0); (try clear p45); (try clear q45); (try clear hx45); (try clear c46); (try clear c47); (try clear c47b0); (try clear c48); (try clear c48b0); (try clear c49); (try clear c49b0); (try clear p50); (try clear q50); (try clear hx50); (try clear c54); (try clear c54b0); (try clear c54b1); (try clear c56); (try clear c56b0); (try clear c56b1); (try clear c57); (try clear c58); (try clear c58b0); (try clear c58b1); (try clear c62); (try clear c62b0); (try clear c62b1); (try clear c63); (try clear c64); (try clear c64b0); (try clear p64); (try clear c70); (try clear c72); (try clear hcz53_0); (try clear hcz53_1); (try clear hcz53_2); (try clear hcz53_3); (try clear hcz53_4); (try clear hcz55_0); (try clear hcz55_1); (try clear hcz55_2); (try clear hcz55_3); (try clear hcz55_4); (try clear hcz59_0); (try clear hcz59_1); (try clear hcz59_2); (try clear hcz59_3); (try clear hcz59_4); (try clear hcz60_0); (try clear hcz60_1); (try clear hcz60_2); (try clear hcz60_3); (try clear hcz60_4); (try clear hcz61_0); (try clear hcz61_1); (try clear hcz61_2); (try clear hcz61_3); (try clear hcz61_4); (try clear hcz65_0); (try clear hcz65_1); (try clear hcz65_2); (try clear hcz65_3); (try clear hcz65_4); (try clear hcz66_0); (try clear hcz66_1); (try clear hcz66_2); (try clear hcz66_3); (try clear hcz66_4); (try clear hcz67_0); (try clear hcz67_1); (try clear hcz67_2); (try clear hcz67_3); (try clear hcz67_4); (try clear hcz68_0); (try clear hcz68_1); (try clear hcz68_2); (try clear hcz68_3); (try clear hcz68_4); (try clear hfz53_0); (try clear hfz53_1); (try clear hfz53_2); (try clear hfz53_3); (try clear hfz53_4); (try clear hfz55_0); (try clear hfz55_1); (try clear hfz55_2); (try clear hfz55_3); (try clear hfz55_4); (try clear hfz59_0); (try clear hfz59_1); (try clear hfz59_2); (try clear hfz59_3); (try clear hfz59_4); (try clear hfz60_0); (try clear hfz60_1); (try clear hfz60_2); (try clear hfz60_3); (try clear hfz60_4); (try clear hfz61_0); (try clear hfz61_1); (try clear hfz61_2); (try clear hfz61_3); (try clear hfz61_4); (try clear hfz65_0); (try clear hfz65_1); (try clear hfz65_2); (try clear hfz65_3); (try clear hfz65_4); (try clear hfz66_0); (try clear hfz66_1); (try clear hfz66_2); (try clear hfz66_3); (try clear hfz66_4); (try clear hfz67_0); (try clear hfz67_1); (try clear hfz67_2); (try clear hfz67_3); (try clear hfz67_4); (try clear hfz68_0); (try clear hfz68_1); (try clear hfz68_2); (try clear hfz68_3); (try clear hfz68_4); (try clear p2); (try clear p23); (try clear p3); (try clear p38); (try clear p4); (try clear p43); (try clear p45); (try clear p5); (try clear p50); (try clear p6); (try clear p64); (try clear q2); (try clear q23); (try clear q3); (try clear q38); (try clear q4); (try clear q43); (try clear q45); (try clear q5); (try clear q50)
                                        obtain ⟨kq, x13_70, rfl, HA, HJ70, BK240, HB⟩ := hcut
                                        cases kq with
                                        | zero => exact absurd HA.out (by simp [stipendlaw08_CodeForms.j10])
                                        | succ kj70 =>
                                          have H := HA.out
                                          clear HA
                                          simp only [stipendlaw08_CodeForms.j10] at H
                                          have H' := AM H
                                          clear H
                                          go_wp2
                                          repeat (go_quiet (fail); try go_wp2)
                                          refine Go.Proofs.YtodijkdmcjnpkaaDoor.KPatch.loopU [none, none, none, none, none, none, some 6, none, none, none, none, none, none, none, some 14, none, none, none, none, none, none, none, none, none, none, none, none, none, none, none, none, none, none, none, none, none, none, none, none, none, none, none, none, none, none, none, none, none, none, none, none, none, none, none, none, none, none, none, none, none, none, none, none, none, none, none, none, none, none, none, none, none, none, none, none, none, none, none, none, none, none, none, none, none, none, none, none, none, none, none, none, none, none, none, none, none, none, none, none, none, none, none, none, none, none, none, none, none, none, none, none, none, none, none, none, none, none, none, none, none, none, none, none, none, none, none, none, none, none, none, none, none, none, none, none, none, none, none, none, none, none, none, none, none, none, none, some 146, some 147, some 148, some 149, some 150, some 151, some 152, some 153, some 154, some 155, some 156, some 157, some 158, some 159, none, none, none, none, none, none, none, none, none, none, none, none, none, none, none, none, none, none, none, none, none, none] kj70 (fun (kq : Nat) (u_ : Nat → Value) (w' : World) => (fun (kq : Nat) (v146 : Value) (w' : World) => ∃ (x146_11 : Int), v146 = .int .i64 x146_11 ∧ Aside0 (stipendlaw08_CodeForms.l1 kq a2 x8_29 x13_70 (a2.size : Int) x146_11 a0 x241001_50 x241002_50 x241003_50 x7_5 = some r) ∧ Aside0 (kq ≤ kj70) ∧ Aside0 (w'.heap[gb240]? = some (.cells #[.int .i64 a0, .int .i64 x241001_50, .int .i64 x241002_50, .int .i64 x241003_50, .bool x7_5] 23 (0, 0))) ∧ Aside0 (Below w.heap.size w w')) kq (u_ 146) w') ?atStart48 ?self48 ?round48
                                          case self48 => repeat (first | exact rfl | refine ⟨rfl, ?_⟩)
                                          case atStart48 => exact ⟨(0), (by first | rfl | (simp; done) | (simp [*]; done)), H', ⟨Nat.le_refl _⟩, ⟨by (with_reducible repeat (first | refine kD ?_ _ | refine k1_ ?_ | refine kA ?_ _)); exact BK240.out⟩, ⟨by repeat (first | (with_reducible first | exact HB.out | apply bA | apply bD | apply b1 | refine bS ?_ GE240.out) | exact HB.out)⟩⟩
                                          case round48 =>
                                            intro gk u_ wr hrel J_ K_ hL_ hK_
                                            dsimp only [Go.Proofs.YtodijkdmcjnpkaaDoor.KPatch.patch]
                                            generalize u_ 146 = u146 at hrel ⊢
                                            clear H'
                                            (try clear c1); (try clear c2); (try clear p2); (try clear q2); (try clear hx2); (try clear hcv2); (try clear c3); (try clear p3); (try clear q3); (try clear hx3); (try clear qi3); (try clear c4); (try clear p4); (try clear q4); (try clear hx4); (try clear c5); (try clear p5); (try clear q5); (try clear hx5); (try clear c6); (try clear p6); (try clear c7); (try clear c8); (try clear c8b0); (try clear c8b1); (try clear c10); (try clear c10b0); (try clear c10b1); (try clear c11); (try clear c11b0); (try clear c12); (try clear c12b0); (try clear c13); (try clear c13b0); (try clear c14); (try clear c15); (try clear c15b0); (try clear c15b1); (try clear c15b2); (try clear c16); (try clear c16b0); (try clear c16b1); (try clear c16b2); (try clear c18); (try clear c18b0); (try clear c18b1); (try clear c19); (try clear c19b0); (try clear c19b1); (try clear c20); (try clear c20b0); (try clear c20b1); (try clear c21); (try clear c21b0); (try clear c22); (try clear c22b0); (try clear p23); (try clear q23); (try clear hx23); (try clear c25); (try clear c25b0); (try clear c26); (try clear c26b0); (try clear c26b1); (try clear c26b2); (try clear hcv29); (try clear c31); (try clear c32); (try clear c32b0); (try clear c32b1); (try clear c32b2); (try clear c34); (try clear c34b0); (try clear c34b1); (try clear c35); (try clear c35b0); (try clear c35b1); (try clear c36); (try clear c36b0); (try clear c36b1); (try clear c37); (try clear c37b0); (try clear c37b1); (try clear p38); (try clear q38); (try clear hx38); (try clear qi38); (try clear c39); (try clear c39b0); (try clear c41); (try clear c41b0); (try clear c42); (try clear c42b0); (try clear p43); (try clear q43); (try clear hx43); (try clear c44); (try clear c44b0); (try clear p45); (try clear q45); (try clear hx45); (try clear c46); (try clear c47); (try clear c47b0); (try clear c48); (try clear c48b0); (try clear c49); (try clear c49b0); (try clear p50); (try clear q50); (try clear hx50); (try clear c54); (try clear c54b0); (try clear c54b1); (try clear c56); (try clear c56b0); (try clear c56b1); (try clear c57); (try clear c58); (try clear c58b0); (try clear c58b1); (try clear c62); (try clear c62b0); (try clear c62b1); (try clear c63); (try clear c64); (try clear c64b0); (try clear p64); (try clear c70); (try clear c72); (try clear hcz53_0); (try clear hcz53_1); (try clear hcz53_2); (try clear hcz53_3); (try clear hcz53_4); (try clear hcz55_0); (try clear hcz55_1); (try clear hcz55_2); (try clear hcz55_3); (try clear hcz55_4); (try clear hcz59_0); (try clear hcz59_1); (try clear hcz59_2); (try clear hcz59_3); (try clear hcz59_4); (try clear hcz60_0); (try clear hcz60_1); (try clear hcz60_2); (try clear hcz60_3); (try clear hcz60_4); (try clear hcz61_0); (try clear hcz61_1); (try clear hcz61_2); (try clear hcz61_3); (try clear hcz61_4); (try clear hcz65_0); (try clear hcz65_1); (try clear hcz65_2); (try clear hcz65_3); (try clear hcz65_4); (try clear hcz66_0); (try clear hcz66_1); (try clear hcz66_2); (try clear hcz66_3); (try clear hcz66_4); (try clear hcz67_0); (try clear hcz67_1); (try clear hcz67_2); (try clear hcz67_3); (try clear hcz67_4); (try clear hcz68_0); (try clear hcz68_1); (try clear hcz68_2); (try clear hcz68_3); (try clear hcz68_4); (try clear hfz53_0); (try clear hfz53_1); (try clear hfz53_2); (try clear hfz53_3); (try clear hfz53_4); (try clear hfz55_0); (try clear hfz55_1); (try clear hfz55_2); (try clear hfz55_3); (try clear hfz55_4); (try clear hfz59_0); (try clear hfz59_1); (try clear hfz59_2); (try clear hfz59_3); (try clear hfz59_4); (try clear hfz60_0); (try clear hfz60_1); (try clear hfz60_2); (try clear hfz60_3); (try clear hfz60_4); (try clear hfz61_0); (try clear hfz61_1); (try clear hfz61_2); (try clear hfz61_3); (try clear hfz61_4); (try clear hfz65_0); (try clear hfz65_1); (try clear hfz65_2); (try clear hfz65_3); (try clear hfz65_4); (try clear hfz66_0); (try clear hfz66_1); (try clear hfz66_2); (try clear hfz66_3); (try clear hfz66_4); (try clear hfz67_0); (try clear hfz67_1); (try clear hfz67_2); (try clear hfz67_3); (try clear hfz67_4); (try clear hfz68_0); (try clear hfz68_1); (try clear hfz68_2); (try clear hfz68_3); (try clear hfz68_4); (try clear p2); (try clear p23); (try clear p3); (try clear p38); (try clear p4); (try clear p43); (try clear p45); (try clear p5); (try clear p50); (try clear p6); (try clear p64); (try clear q2); (try clear q23); (try clear q3); (try clear q38); (try clear q4); (try clear q43); (try clear q45); (try clear q5); (try clear q50)
                                            obtain ⟨x146_11, rfl, HA, HK11, BK240, HB⟩ := hrel
                                            cases gk with
                                            | zero => exact absurd HA.out (by simp [stipendlaw08_CodeForms.l1])
                                            | succ k11 =>
                                              have H := HA.out
                                              clear HA
                                              simp only [stipendlaw08_CodeForms.l1] at H
                                              by_cases c73 : x146_11 < (a2.size : Int)
                                              · rw [if_pos c73] at H
                                                have c73b0 := decide_eq_true c73
                                                clear c73
                                                by_cases c74 : 0 ≤ x146_11
                                                rotate_left
                                                · rw [if_neg c74] at H
                                                  exact absurd H (by simp)
                                                rw [if_pos c74] at H
                                                have c74b0 := decide_eq_true c74
                                                clear c74
                                                by_cases c75 : x146_11 < (a2.size : Int)
                                                rotate_left
                                                · rw [if_neg c75] at H
                                                  exact absurd H (by simp)
                                                rw [if_pos c75] at H
                                                have c75b0 := decide_eq_true c75
                                                clear c75
                                                by_cases c77 : (bt a2 x146_11) ≥ 65
                                                rotate_left
                                                · rw [if_neg c77] at H
                                                  have c77b0 : decide (65 ≤ (bt a2 x146_11)) = false := decide_eq_false c77
                                                  clear c77
                                                  have H' := AM H
                                                  clear H
                                                  have p76 : 0 ≤ (x146_11 : Int) := of_decide_eq_true (by first | (with_reducible assumption) | assumption)
                                                  have q76 : x146_11 < (a2.size : Int) := of_decide_eq_true (by first | (with_reducible assumption) | assumption)
                                                  have hx76 := bt_at a2 x146_11
                                                  replace p76 := eq_true p76
                                                  replace q76 := eq_true q76
                                                  go_wp2
                                                  repeat (go_quiet (fail); try go_wp2)
                                                  refine Handed.intro k11 ?measure49 ?_
                                                  rotate_left
                                                  refine Go.Proofs.YtodijkdmcjnpkaaDoor.KPatch.meetL (by assumption) ?rel49 ?keep49
                                                  case keep49 => repeat (first | exact rfl | refine ⟨rfl, ?_⟩)
                                                  case measure49 => have := HJ5.out; have := HJ8.out; have := HJ16.out; have := HJ23.out; have := HJ29.out; have := HJ32.out; have := HK7.out; have := HJ50.out; have := HJ68.out; have := HJ70.out; have := HK11.out; omega
                                                  case rel49 => exact ⟨(wrap64 (x146_11 + 1)), (by first | rfl | (simp; done) | (simp [*]; done)), H', ⟨by have := HJ5.out; have := HJ8.out; have := HJ16.out; have := HJ23.out; have := HJ29.out; have := HJ32.out; have := HK7.out; have := HJ50.out; have := HJ68.out; have := HJ70.out; have := HK11.out; omega⟩, ⟨by (with_reducible repeat (first | refine kD ?_ _ | refine k1_ ?_ | refine kA ?_ _)); exact BK240.out⟩, ⟨by repeat (first | (with_reducible first | exact HB.out | apply bA | apply bD | apply b1 | refine bS ?_ GE240.out) | exact HB.out)⟩⟩
                                                rw [if_pos c77] at H
                                                have c77b0 : decide (65 ≤ (bt a2 x146_11)) = true := decide_eq_true c77
                                                clear c77
                                                by_cases c79 : (bt a2 x146_11) ≤ 90
                                                · rw [if_pos c79] at H
                                                  have c79b0 := decide_eq_true c79
                                                  clear c79
                                                  obtain rfl := Option.some.inj H
                                                  have p76 : 0 ≤ (x146_11 : Int) := of_decide_eq_true (by first | (with_reducible assumption) | assumption)
                                                  have q76 : x146_11 < (a2.size : Int) := of_decide_eq_true (by first | (with_reducible assumption) | assumption)
                                                  have hx76 := bt_at a2 x146_11
                                                  replace p76 := eq_true p76
                                                  replace q76 := eq_true q76
                                                  have p78 : 0 ≤ (x146_11 : Int) := of_decide_eq_true (by first | (with_reducible assumption) | assumption)
                                                  have q78 : x146_11 < (a2.size : Int) := of_decide_eq_true (by first | (with_reducible assumption) | assumption)
                                                  have hx78 := bt_at a2 x146_11
                                                  replace p78 := eq_true p78
                                                  replace q78 := eq_true q78
                                                  go_wp2
                                                  repeat (go_quiet (fail); try go_wp2)
                                                  go_ret
                                                  exact ⟨by first | rfl | (simp [errW_none, errW_some] <;> rfl) | (simp [*, errW_none, errW_some] <;> rfl), by repeat (first | (with_reducible first | exact HB.out | apply bA | apply bD | apply b1 | refine bS ?_ GE240.out) | exact HB.out)⟩
                                                rw [if_neg c79] at H
                                                have c79b0 := decide_eq_false c79
                                                clear c79
                                                have H' := AM H
                                                clear H
                                                have p76 : 0 ≤ (x146_11 : Int) := of_decide_eq_true (by first | (with_reducible assumption) | assumption)
                                                have q76 : x146_11 < (a2.size : Int) := of_decide_eq_true (by first | (with_reducible assumption) | assumption)
                                                have hx76 := bt_at a2 x146_11
                                                replace p76 := eq_true p76
                                                replace q76 := eq_true q76
                                                have p78 : 0 ≤ (x146_11 : Int) := of_decide_eq_true (by first | (with_reducible assumption) | assumption)
                                                have q78 : x146_11 < (a2.size : Int) := of_decide_eq_true (by first | (with_reducible assumption) | assumption)
                                                have hx78 := bt_at a2 x146_11
                                                replace p78 := eq_true p78
                                                replace q78 := eq_true q78
                                                go_wp2
                                                repeat (go_quiet (fail); try go_wp2)
                                                refine Handed.intro k11 ?measure50 ?_
                                                rotate_left
                                                refine Go.Proofs.YtodijkdmcjnpkaaDoor.KPatch.meetL (by assumption) ?rel50 ?keep50
                                                case keep50 => repeat (first | exact rfl | refine ⟨rfl, ?_⟩)
                                                case measure50 => have := HJ5.out; have := HJ8.out; have := HJ16.out; have := HJ23.out; have := HJ29.out; have := HJ32.out; have := HK7.out; have := HJ50.out; have := HJ68.out; have := HJ70.out; have := HK11.out; omega
                                                case rel50 => exact ⟨(wrap64 (x146_11 + 1)), (by first | rfl | (simp; done) | (simp [*]; done)), H', ⟨by have := HJ5.out; have := HJ8.out; have := HJ16.out; have := HJ23.out; have := HJ29.out; have := HJ32.out; have := HK7.out; have := HJ50.out; have := HJ68.out; have := HJ70.out; have := HK11.out; omega⟩, ⟨by (with_reducible repeat (first | refine kD ?_ _ | refine k1_ ?_ | refine kA ?_ _)); exact BK240.out⟩, ⟨by repeat (first | (with_reducible first | exact HB.out | apply bA | apply bD | apply b1 | refine bS ?_ GE240.out) | exact HB.out)⟩⟩
                                              rw [if_neg c73] at H
                                              have c73b0 := decide_eq_false c73
                                              clear c73
                                              replace H := Option.bind_eq_some_iff.mp H
                                              obtain ⟨⟨t241, t242, t243, t244, t245, t246⟩, A800, H⟩ := H
                                              replace H : (if x13_70 = 0 then (if t246 = 0 then (some (t241 == a0 && (t242 == x241001_50 && (t243 == x241002_50 && (t244 == x241003_50 && (t245 == x7_5)))))) else (some false)) else (if t246 = x13_70 then (some (t241 == 0 && (t242 == 0 && (t243 == 0 && (t244 == 0 && (!t245)))))) else (some false))) = some r := H
                                              have A80 := AM A800
                                              clear A800
                                              by_cases c81 : x13_70 = 0
                                              rotate_left
                                              · rw [if_neg c81] at H
                                                have c81b0 : (x13_70 == 0) = false := beq_eq_false_iff_ne.mpr c81
                                                have c81b1 : (x13_70 != 0) = true := bne_iff_ne.mpr c81
                                                by_cases c88 : t246 = x13_70
                                                rotate_left
                                                · rw [if_neg c88] at H
                                                  have c88b0 : (t246 == x13_70) = false := beq_eq_false_iff_ne.mpr c88
                                                  have c88b1 : (t246 != x13_70) = true := bne_iff_ne.mpr c88
                                                  exact absurd (Option.some.inj H) (by rw [HRT.out]; decide)
                                                rw [if_pos c88] at H
                                                have c88b0 : (t246 == x13_70) = true := beq_iff_eq.mpr c88
                                                have c88b1 : (t246 != x13_70) = false := bne_eq_false_iff_eq.mpr c88
                                                clear c88
                                                obtain rfl := Option.some.inj H
                                                go_wp2_with (first | (go_at_call 9; (with_reducible refine (code_Parse.calls k11 x8_29 t241 t242 t243 t244 t245 t246 _ A80.out).mono ?_); rintro e w89 ⟨rfl, hb⟩; have n0_ := AM (kB (g := gb240) (o := .cells #[.int .i64 a0, .int .i64 x241001_50, .int .i64 x241002_50, .int .i64 x241003_50, .bool x7_5] 23 (0, 0)) (kW BK240) hb); have n1_ := AM (bT bQ hb); clear BK240; clear HB; have BK240 := n0_; have HB := n1_; clear n0_ n1_; (try clear hb); (try clear hb2); (try clear hk); (try clear hi)) | ((with_reducible refine gD (N := 15) rfl ?_); (try (refine gG (by rfl) ?_; dsimp only)); refine bE ?hg (N := 15) ?hd (cs := #[.int .i64 0, .int .i64 0, .int .i64 0, .int .i64 0, .bool false]) (t := 23) ?hr ?_; (case hd => rfl); (case hg => rfl); (case hr => first | (go_simp; done) | (go_simp; rfl)); intro gb247 hg w90 hbox hb; have n0_ := AM (kB (g := gb240) (o := .cells #[.int .i64 a0, .int .i64 x241001_50, .int .i64 x241002_50, .int .i64 x241003_50, .bool x7_5] 23 (0, 0)) (kW BK240) hb); have n1_ := AM (bT bQ hb); have n2_ := AM (hbox); have n3_ := AM ((by rw [hg]; exact (bZ bQ) : w.heap.size ≤ gb247)); have n4_ := AM ((by rw [hg]; exact (bZ bQ) : w.heap.size ≤ gb247)); have n5_ := AM ((by rw [hg]; exact Nat.ne_of_lt (blk_lt (g := gb240) (o := .cells #[.int .i64 a0, .int .i64 x241001_50, .int .i64 x241002_50, .int .i64 x241003_50, .bool x7_5] 23 (0, 0)) (kW BK240)) : gb240 ≠ gb247)); have n6_ := AM ((by rw [hg]; exact Nat.ne_of_gt (blk_lt (g := gb240) (o := .cells #[.int .i64 a0, .int .i64 x241001_50, .int .i64 x241002_50, .int .i64 x241003_50, .bool x7_5] 23 (0, 0)) (kW BK240)) : gb247 ≠ gb240)); clear BK240; clear HB; have BK240 := n0_; have HB := n1_; have BK247 := n2_; have GW247 := n3_; have GE247 := n4_; have NB240_247 := n5_; have NB247_240 := n6_; clear n0_ n1_ n2_ n3_ n4_ n5_ n6_; clear hb hbox hg; have hnb91 := NB247_240.out; have hnc91 := NB240_247.out; obtain ⟨_, _, _, _, _, _, _, _, _, _⟩ := bX5 BK247.out))
                                                repeat (go_quiet (first | (go_at_call 9; (with_reducible refine (code_Parse.calls k11 x8_29 t241 t242 t243 t244 t245 t246 _ A80.out).mono ?_); rintro e w89 ⟨rfl, hb⟩; have n0_ := AM (kB (g := gb240) (o := .cells #[.int .i64 a0, .int .i64 x241001_50, .int .i64 x241002_50, .int .i64 x241003_50, .bool x7_5] 23 (0, 0)) (kW BK240) hb); have n1_ := AM (bT bQ hb); clear BK240; clear HB; have BK240 := n0_; have HB := n1_; clear n0_ n1_; (try clear hb); (try clear hb2); (try clear hk); (try clear hi)) | ((with_reducible refine gD (N := 15) rfl ?_); (try (refine gG (by rfl) ?_; dsimp only)); refine bE ?hg (N := 15) ?hd (cs := #[.int .i64 0, .int .i64 0, .int .i64 0, .int .i64 0, .bool false]) (t := 23) ?hr ?_; (case hd => rfl); (case hg => rfl); (case hr => first | (go_simp; done) | (go_simp; rfl)); intro gb247 hg w90 hbox hb; have n0_ := AM (kB (g := gb240) (o := .cells #[.int .i64 a0, .int .i64 x241001_50, .int .i64 x241002_50, .int .i64 x241003_50, .bool x7_5] 23 (0, 0)) (kW BK240) hb); have n1_ := AM (bT bQ hb); have n2_ := AM (hbox); have n3_ := AM ((by rw [hg]; exact (bZ bQ) : w.heap.size ≤ gb247)); have n4_ := AM ((by rw [hg]; exact (bZ bQ) : w.heap.size ≤ gb247)); have n5_ := AM ((by rw [hg]; exact Nat.ne_of_lt (blk_lt (g := gb240) (o := .cells #[.int .i64 a0, .int .i64 x241001_50, .int .i64 x241002_50, .int .i64 x241003_50, .bool x7_5] 23 (0, 0)) (kW BK240)) : gb240 ≠ gb247)); have n6_ := AM ((by rw [hg]; exact Nat.ne_of_gt (blk_lt (g := gb240) (o := .cells #[.int .i64 a0, .int .i64 x241001_50, .int .i64 x241002_50, .int .i64 x241003_50, .bool x7_5] 23 (0, 0)) (kW BK240)) : gb247 ≠ gb240)); clear BK240; clear HB; have BK240 := n0_; have HB := n1_; have BK247 := n2_; have GW247 := n3_; have GE247 := n4_; have NB240_247 := n5_; have NB247_240 := n6_; clear n0_ n1_ n2_ n3_ n4_ n5_ n6_; clear hb hbox hg; have hnb91 := NB247_240.out; have hnc91 := NB240_247.out; obtain ⟨_, _, _, _, _, _, _, _, _, _⟩ := bX5 BK247.out)); try go_wp2_with (first | (go_at_call 9; (with_reducible refine (code_Parse.calls k11 x8_29 t241 t242 t243 t244 t245 t246 _ A80.out).mono ?_); rintro e w89 ⟨rfl, hb⟩; have n0_ := AM (kB (g := gb240) (o := .cells #[.int .i64 a0, .int .i64 x241001_50, .int .i64 x241002_50, .int .i64 x241003_50, .bool x7_5] 23 (0, 0)) (kW BK240) hb); have n1_ := AM (bT bQ hb); clear BK240; clear HB; have BK240 := n0_; have HB := n1_; clear n0_ n1_; (try clear hb); (try clear hb2); (try clear hk); (try clear hi)) | ((with_reducible refine gD (N := 15) rfl ?_); (try (refine gG (by rfl) ?_; dsimp only)); refine bE ?hg (N := 15) ?hd (cs := #[.int .i64 0, .int .i64 0, .int .i64 0, .int .i64 0, .bool false]) (t := 23) ?hr ?_; (case hd => rfl); (case hg => rfl); (case hr => first | (go_simp; done) | (go_simp; rfl)); intro gb247 hg w90 hbox hb; have n0_ := AM (kB (g := gb240) (o := .cells #[.int .i64 a0, .int .i64 x241001_50, .int .i64 x241002_50, .int .i64 x241003_50, .bool x7_5] 23 (0, 0)) (kW BK240) hb); have n1_ := AM (bT bQ hb); have n2_ := AM (hbox); have n3_ := AM ((by rw [hg]; exact (bZ bQ) : w.heap.size ≤ gb247)); have n4_ := AM ((by rw [hg]; exact (bZ bQ) : w.heap.size ≤ gb247)); have n5_ := AM ((by rw [hg]; exact Nat.ne_of_lt (blk_lt (g := gb240) (o := .cells #[.int .i64 a0, .int .i64 x241001_50, .int .i64 x241002_50, .int .i64 x241003_50, .bool x7_5] 23 (0, 0)) (kW BK240)) : gb240 ≠ gb247)); have n6_ := AM ((by rw [hg]; exact Nat.ne_of_gt (blk_lt (g := gb240) (o := .cells #[.int .i64 a0, .int .i64 x241001_50, .int .i64 x241002_50, .int .i64 x241003_50, .bool x7_5] 23 (0, 0)) (kW BK240)) : gb247 ≠ gb240)); clear BK240; clear HB; have BK240 := n0_; have HB := n1_; have BK247 := n2_; have GW247 := n3_; have GE247 := n4_; have NB240_247 := n5_; have NB247_240 := n6_; clear n0_ n1_ n2_ n3_ n4_ n5_ n6_; clear hb hbox hg; have hnb91 := NB247_240.out; have hnc91 := NB240_247.out; obtain ⟨_, _, _, _, _, _, _, _, _, _⟩ := bX5 BK247.out)))
                                                go_ret
                                                exact ⟨by first | rfl | (simp [errW_none, errW_some] <;> rfl) | (simp [*, errW_none, errW_some] <;> rfl), by repeat (first | (with_reducible first | exact HB.out | apply bA | apply bD | apply b1 | refine bS ?_ GE240.out | refine bS ?_ GE247.out) | exact HB.out)⟩
                                              rw [if_pos c81] at H
                                              have c81b0 : (x13_70 == 0) = true := beq_iff_eq.mpr c81
                                              have c81b1 : (x13_70 != 0) = false := bne_eq_false_iff_eq.mpr c81
                                              clear c81
                                              by_cases c82 : t246 = 0
                                              rotate_left
                                              · rw [if_neg c82] at H
                                                have c82b0 : (t246 == 0) = false := beq_eq_false_iff_ne.mpr c82
                                                have c82b1 : (t246 != 0) = true := bne_iff_ne.mpr c82
                                                exact absurd (Option.some.inj H) (by rw [HRT.out]; decide)
                                              rw [if_pos c82] at H
                                              have c82b0 : (t246 == 0) = true := beq_iff_eq.mpr c82
                                              have c82b1 : (t246 != 0) = false := bne_eq_false_iff_eq.mpr c82
                                              clear c82
                                              obtain rfl := Option.some.inj H
                                              go_wp2_with (first | (go_at_call 9; (with_reducible refine (code_Parse.calls k11 x8_29 t241 t242 t243 t244 t245 t246 _ A80.out).mono ?_); rintro e w83 ⟨rfl, hb⟩; have n0_ := AM (kB (g := gb240) (o := .cells #[.int .i64 a0, .int .i64 x241001_50, .int .i64 x241002_50, .int .i64 x241003_50, .bool x7_5] 23 (0, 0)) (kW BK240) hb); have n1_ := AM (bT bQ hb); clear BK240; clear HB; have BK240 := n0_; have HB := n1_; clear n0_ n1_; (try clear hb); (try clear hb2); (try clear hk); (try clear hi)) | ((with_reducible refine gD (N := 15) rfl ?_); (try (refine gG (by rfl) ?_; dsimp only)); refine bE ?hg (N := 15) ?hd (cs := #[.int .i64 0, .int .i64 0, .int .i64 0, .int .i64 0, .bool false]) (t := 23) ?hr ?_; (case hd => rfl); (case hg => rfl); (case hr => first | (go_simp; done) | (go_simp; rfl)); intro gb247 hg w84 hbox hb; have n0_ := AM (kB (g := gb240) (o := .cells #[.int .i64 a0, .int .i64 x241001_50, .int .i64 x241002_50, .int .i64 x241003_50, .bool x7_5] 23 (0, 0)) (kW BK240) hb); have n1_ := AM (bT bQ hb); have n2_ := AM (hbox); have n3_ := AM ((by rw [hg]; exact (bZ bQ) : w.heap.size ≤ gb247)); have n4_ := AM ((by rw [hg]; exact (bZ bQ) : w.heap.size ≤ gb247)); have n5_ := AM ((by rw [hg]; exact Nat.ne_of_lt (blk_lt (g := gb240) (o := .cells #[.int .i64 a0, .int .i64 x241001_50, .int .i64 x241002_50, .int .i64 x241003_50, .bool x7_5] 23 (0, 0)) (kW BK240)) : gb240 ≠ gb247)); have n6_ := AM ((by rw [hg]; exact Nat.ne_of_gt (blk_lt (g := gb240) (o := .cells #[.int .i64 a0, .int .i64 x241001_50, .int .i64 x241002_50, .int .i64 x241003_50, .bool x7_5] 23 (0, 0)) (kW BK240)) : gb247 ≠ gb240)); clear BK240; clear HB; have BK240 := n0_; have HB := n1_; have BK247 := n2_; have GW247 := n3_; have GE247 := n4_; have NB240_247 := n5_; have NB247_240 := n6_; clear n0_ n1_ n2_ n3_ n4_ n5_ n6_; clear hb hbox hg; have hnb85 := NB247_240.out; have hnc85 := NB240_247.out; obtain ⟨_, _, _, _, _, _, _, _, _, _⟩ := bX5 BK247.out; obtain ⟨_, _, _, _, _, _, _, _, _, _⟩ := bX5 BK240.out))
                                              repeat (go_quiet (first | (go_at_call 9; (with_reducible refine (code_Parse.calls k11 x8_29 t241 t242 t243 t244 t245 t246 _ A80.out).mono ?_); rintro e w83 ⟨rfl, hb⟩; have n0_ := AM (kB (g := gb240) (o := .cells #[.int .i64 a0, .int .i64 x241001_50, .int .i64 x241002_50, .int .i64 x241003_50, .bool x7_5] 23 (0, 0)) (kW BK240) hb); have n1_ := AM (bT bQ hb); clear BK240; clear HB; have BK240 := n0_; have HB := n1_; clear n0_ n1_; (try clear hb); (try clear hb2); (try clear hk); (try clear hi)) | ((with_reducible refine gD (N := 15) rfl ?_); (try (refine gG (by rfl) ?_; dsimp only)); refine bE ?hg (N := 15) ?hd (cs := #[.int .i64 0, .int .i64 0, .int .i64 0, .int .i64 0, .bool false]) (t := 23) ?hr ?_; (case hd => rfl); (case hg => rfl); (case hr => first | (go_simp; done) | (go_simp; rfl)); intro gb247 hg w84 hbox hb; have n0_ := AM (kB (g := gb240) (o := .cells #[.int .i64 a0, .int .i64 x241001_50, .int .i64 x241002_50, .int .i64 x241003_50, .bool x7_5] 23 (0, 0)) (kW BK240) hb); have n1_ := AM (bT bQ hb); have n2_ := AM (hbox); have n3_ := AM ((by rw [hg]; exact (bZ bQ) : w.heap.size ≤ gb247)); have n4_ := AM ((by rw [hg]; exact (bZ bQ) : w.heap.size ≤ gb247)); have n5_ := AM ((by rw [hg]; exact Nat.ne_of_lt (blk_lt (g := gb240) (o := .cells #[.int .i64 a0, .int .i64 x241001_50, .int .i64 x241002_50, .int .i64 x241003_50, .bool x7_5] 23 (0, 0)) (kW BK240)) : gb240 ≠ gb247)); have n6_ := AM ((by rw [hg]; exact Nat.ne_of_gt (blk_lt (g := gb240) (o := .cells #[.int .i64 a0, .int .i64 x241001_50, .int .i64 x241002_50, .int .i64 x241003_50, .bool x7_5] 23 (0, 0)) (kW BK240)) : gb247 ≠ gb240)); clear BK240; clear HB; have BK240 := n0_; have HB := n1_; have BK247 := n2_; have GW247 := n3_; have GE247 := n4_; have NB240_247 := n5_; have NB247_240 := n6_; clear n0_ n1_ n2_ n3_ n4_ n5_ n6_; clear hb hbox hg; have hnb85 := NB247_240.out; have hnc85 := NB240_247.out; obtain ⟨_, _, _, _, _, _, _, _, _, _⟩ := bX5 BK247.out; obtain ⟨_, _, _, _, _, _, _, _, _, _⟩ := bX5 BK240.out)); try go_wp2_with (first | (go_at_call 9; (with_reducible refine (code_Parse.calls k11 x8_29 t241 t242 t243 t244 t245 t246 _ A80.out).mono ?_); rintro e w83 ⟨rfl, hb⟩; have n0_ := AM (kB (g := gb240) (o := .cells #[.int .i64 a0, .int .i64 x241001_50, .int .i64 x241002_50, .int .i64 x241003_50, .bool x7_5] 23 (0, 0)) (kW BK240) hb); have n1_ := AM (bT bQ hb); clear BK240; clear HB; have BK240 := n0_; have HB := n1_; clear n0_ n1_; (try clear hb); (try clear hb2); (try clear hk); (try clear hi)) | ((with_reducible refine gD (N := 15) rfl ?_); (try (refine gG (by rfl) ?_; dsimp only)); refine bE ?hg (N := 15) ?hd (cs := #[.int .i64 0, .int .i64 0, .int .i64 0, .int .i64 0, .bool false]) (t := 23) ?hr ?_; (case hd => rfl); (case hg => rfl); (case hr => first | (go_simp; done) | (go_simp; rfl)); intro gb247 hg w84 hbox hb; have n0_ := AM (kB (g := gb240) (o := .cells #[.int .i64 a0, .int .i64 x241001_50, .int .i64 x241002_50, .int .i64 x241003_50, .bool x7_5] 23 (0, 0)) (kW BK240) hb); have n1_ := AM (bT bQ hb); have n2_ := AM (hbox); have n3_ := AM ((by rw [hg]; exact (bZ bQ) : w.heap.size ≤ gb247)); have n4_ := AM ((by rw [hg]; exact (bZ bQ) : w.heap.size ≤ gb247)); have n5_ := AM ((by rw [hg]; exact Nat.ne_of_lt (blk_lt (g := gb240) (o := .cells #[.int .i64 a0, .int .i64 x241001_50, .int .i64 x241002_50, .int .i64 x241003_50, .bool x7_5] 23 (0, 0)) (kW BK240)) : gb240 ≠ gb247)); have n6_ := AM ((by rw [hg]; exact Nat.ne_of_gt (blk_lt (g := gb240) (o := .cells #[.int .i64 a0, .int .i64 x241001_50, .int .i64 x241002_50, .int .i64 x241003_50, .bool x7_5] 23 (0, 0)) (kW BK240)) : gb247 ≠ gb240)); clear BK240; clear HB; have BK240 := n0_; have HB := n1_; have BK247 := n2_; have GW247 := n3_; have GE247 := n4_; have NB240_247 := n5_; have NB247_240 := n6_; clear n0_ n1_ n2_ n3_ n4_ n5_ n6_; clear hb hbox hg; have hnb85 := NB247_240.out; have hnc85 := NB240_247.out; obtain ⟨_, _, _, _, _, _, _, _, _, _⟩ := bX5 BK247.out; obtain ⟨_, _, _, _, _, _, _, _, _, _⟩ := bX5 BK240.out)))
                                              go_ret
                                              exact ⟨by first | rfl | (simp [errW_none, errW_some] <;> rfl) | (simp [*, errW_none, errW_some] <;> rfl), by repeat (first | (with_reducible first | exact HB.out | apply bA | apply bD | apply b1 | refine bS ?_ GE240.out | refine bS ?_ GE247.out) | exact HB.out)⟩
end Go.Proofs.YtodijkdmcjnpkaaDoor.K
