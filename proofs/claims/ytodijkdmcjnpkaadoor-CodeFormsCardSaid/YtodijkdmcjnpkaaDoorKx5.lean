-- by a program of this session, over the kit's printer
import Derived.Test.YtodijkdmcjnpkaaDoorKx0
import Derived.Test.YtodijkdmcjnpkaaDoorKx2
namespace Go.Proofs.YtodijkdmcjnpkaaDoor.K
open Go.RowKit Go.Proofs.YtodijkdmcjnpkaaDoorW.PrintWords Go.Proofs.YtodijkdmcjnpkaaDoorW.PrintLast Go.Proofs.YtodijkdmcjnpkaaDoorW.PrintMore
attribute [local go_sem] max2_int min2_int max_two min_two max_three min_three max_four min_four   -- for this text's walks alone
set_option linter.unusedVariables false
set_option linter.unusedSimpArgs false

/-! ### strconv_FormatInt_22: function 22: the shelf's contract -/
def strconv_FormatInt_22.f (a0 : Int) (a1 : Int) : Option (ByteArray) := if a1 = 10 then (if -9223372036854775808 ≤ a0 then (if a0 ≤ 9223372036854775807 then some (digs a0) else none) else none) else none
theorem strconv_FormatInt_22.calls (a0 : Int) (a1 : Int) (r : ByteArray) (w : World) (h : strconv_FormatInt_22.f a0 a1 = some r) (htb : TB w) :
    Calls Tryd.prog 22 #[.int .i64 a0, .int .i64 a1] w fun e w' => e = .returned (.string r) ∧ Below w.heap.size w w' := by
  unfold strconv_FormatInt_22.f at h
  by_cases h1 : a1 = 10
  rotate_left
  · rw [if_neg h1] at h
    exact absurd h (by simp)

  by_cases h2 : -9223372036854775808 ≤ a0
  rotate_left
  · rw [if_pos h1, if_neg h2] at h
    exact absurd h (by simp)
  by_cases h3 : a0 ≤ 9223372036854775807
  rotate_left
  · rw [if_pos h1, if_pos h2, if_neg h3] at h
    exact absurd h (by simp)
  rw [if_pos h1, if_pos h2, if_pos h3] at h
  obtain rfl := Option.some.inj h
  subst h1
  refine (Tryd.strconv_FormatInt_10 a0 h2 h3 w htb).mono fun e w' hh => ?_
  obtain ⟨he, k, os, hw⟩ := hh
  exact ⟨by rw [he, digs_eq a0 h2 h3], by rw [hw]; exact grown_below w k os⟩
/-! ### strconv_Itoa_23: function 23: the shelf's contract -/
def strconv_Itoa_23.f (a0 : Int) : Option (ByteArray) := if -9223372036854775808 ≤ a0 then (if a0 ≤ 9223372036854775807 then some (digs a0) else none) else none
theorem strconv_Itoa_23.calls (a0 : Int) (r : ByteArray) (w : World) (h : strconv_Itoa_23.f a0 = some r) (htb : TB w) :
    Calls Tryd.prog 23 #[.int .i64 a0] w fun e w' => e = .returned (.string r) ∧ Below w.heap.size w w' := by
  unfold strconv_Itoa_23.f at h
  by_cases h2 : -9223372036854775808 ≤ a0
  rotate_left
  · rw [if_neg h2] at h
    exact absurd h (by simp)

  by_cases h3 : a0 ≤ 9223372036854775807
  rotate_left
  · rw [if_pos h2, if_neg h3] at h
    exact absurd h (by simp)
  rw [if_pos h2, if_pos h3] at h
  obtain rfl := Option.some.inj h
  refine (Tryd.strconv_Itoa a0 h2 h3 w htb).mono fun e w' hh => ?_
  obtain ⟨he, k, os, hw⟩ := hh
  exact ⟨by rw [he, digs_eq a0 h2 h3], by rw [hw]; exact grown_below w k os⟩
/-! ### code_Text: function 11 -/
def code_Text.j0 : Nat → ByteArray → Int → Int → Int → Int → Bool → Option (ByteArray)
  | 0, _, _, _, _, _, _ => none
  | k + 1, x3, x147000, x147001, x147002, x147003, x147004 => (strconv_FormatInt_22.f (wrap64 (Int.tdiv x147002 1000)) 10).bind fun t151 => (if x147001 = 1 then (if t151.size + 1 ≤ 9223372036854775807 then (if x3.size + (t151 ++ (⟨#[76]⟩ : ByteArray)).size ≤ 9223372036854775807 then (if x147004 = true then (if (x3 ++ (t151 ++ (⟨#[76]⟩ : ByteArray))).size + 1 ≤ 9223372036854775807 then (some ((x3 ++ (t151 ++ (⟨#[76]⟩ : ByteArray))) ++ (⟨#[88]⟩ : ByteArray))) else (none)) else (some (x3 ++ (t151 ++ (⟨#[76]⟩ : ByteArray))))) else (none)) else (none)) else (if x147001 = 2 then (if 1 + t151.size ≤ 9223372036854775807 then (if x3.size + ((⟨#[75]⟩ : ByteArray) ++ t151).size ≤ 9223372036854775807 then (if x147004 = true then (if (x3 ++ ((⟨#[75]⟩ : ByteArray) ++ t151)).size + 1 ≤ 9223372036854775807 then (some ((x3 ++ ((⟨#[75]⟩ : ByteArray) ++ t151)) ++ (⟨#[88]⟩ : ByteArray))) else (none)) else (some (x3 ++ ((⟨#[75]⟩ : ByteArray) ++ t151)))) else (none)) else (none)) else (if x147001 = 3 then ((strconv_Itoa_23.f x147003).bind fun t152 => (if 1 + t152.size ≤ 9223372036854775807 then (if x3.size + ((⟨#[68]⟩ : ByteArray) ++ t152).size ≤ 9223372036854775807 then (if x147004 = true then (if (x3 ++ ((⟨#[68]⟩ : ByteArray) ++ t152)).size + 1 ≤ 9223372036854775807 then (some ((x3 ++ ((⟨#[68]⟩ : ByteArray) ++ t152)) ++ (⟨#[88]⟩ : ByteArray))) else (none)) else (some (x3 ++ ((⟨#[68]⟩ : ByteArray) ++ t152)))) else (none)) else (none))) else (if x3.size + 2 ≤ 9223372036854775807 then (if x147004 = true then (if (x3 ++ (⟨#[78, 84]⟩ : ByteArray)).size + 1 ≤ 9223372036854775807 then (some ((x3 ++ (⟨#[78, 84]⟩ : ByteArray)) ++ (⟨#[88]⟩ : ByteArray))) else (none)) else (some (x3 ++ (⟨#[78, 84]⟩ : ByteArray)))) else (none)))))
def code_Text.f (k : Nat) (a0_0 : Int) (a0_1 : Int) (a0_2 : Int) (a0_3 : Int) (a0_4 : Bool) : Option (ByteArray) := (code_Check.f k a0_0 a0_1 a0_2 a0_3 a0_4).bind fun t147 => (if t147 = 0 then (if a0_0 > 0 then (code_Text.j0 k (strOfNums (([(wrap64 (79 + a0_0)) % 256] : List Int))) a0_0 a0_1 a0_2 a0_3 a0_4) else (code_Text.j0 k (⟨#[]⟩ : ByteArray) a0_0 a0_1 a0_2 a0_3 a0_4)) else (some (⟨#[]⟩ : ByteArray)))
set_option maxHeartbeats 8000000 in
set_option maxRecDepth 100000 in
theorem code_Text.calls (k : Nat) (a0_0 : Int) (a0_1 : Int) (a0_2 : Int) (a0_3 : Int) (a0_4 : Bool) (r : ByteArray) (w : World) (h : code_Text.f k a0_0 a0_1 a0_2 a0_3 a0_4 = some r) (htb : TB w) :
    Calls Tryd.prog 11 #[.agg #[.int .i64 a0_0, .int .i64 a0_1, .int .i64 a0_2, .int .i64 a0_3, .bool a0_4]] w fun e w' => e = .returned (.string r) ∧ Below w.heap.size w w' := by
  have hu23 := Tryd.underlying23
  have HB := AM (Below.refl w.heap.size w)
  have H : ((code_Check.f k a0_0 a0_1 a0_2 a0_3 a0_4).bind fun t147 => (if t147 = 0 then (if a0_0 > 0 then (code_Text.j0 k (strOfNums (([(wrap64 (79 + a0_0)) % 256] : List Int))) a0_0 a0_1 a0_2 a0_3 a0_4) else (code_Text.j0 k (⟨#[]⟩ : ByteArray) a0_0 a0_1 a0_2 a0_3 a0_4)) else (some (⟨#[]⟩ : ByteArray)))) = some r := h
  clear h
  replace H := Option.bind_eq_some_iff.mp H
  obtain ⟨t147, A20, H⟩ := H
  replace H : (if t147 = 0 then (if a0_0 > 0 then (code_Text.j0 k (strOfNums (([(wrap64 (79 + a0_0)) % 256] : List Int))) a0_0 a0_1 a0_2 a0_3 a0_4) else (code_Text.j0 k (⟨#[]⟩ : ByteArray) a0_0 a0_1 a0_2 a0_3 a0_4)) else (some (⟨#[]⟩ : ByteArray))) = some r := H
  have A2 := AM A20
  clear A20
  by_cases c3 : t147 = 0
  rotate_left
  · rw [if_neg c3] at H
    have c3b0 : (t147 == 0) = false := beq_eq_false_iff_ne.mpr c3
    have c3b1 : (t147 != 0) = true := bne_iff_ne.mpr c3
    obtain rfl := Option.some.inj H
    go_enter Tryd.func11, Tryd.ntmps11
    go_wp2_with (first | ((with_reducible refine gD (N := 1) rfl ?_); refine bE ?hg (N := 1) ?hd (cs := #[.int .i64 a0_0, .int .i64 a0_1, .int .i64 a0_2, .int .i64 a0_3, .bool a0_4]) (t := 23) ?hr ?_; (case hd => rfl); (case hg => rfl); (case hr => first | (go_simp; done) | (go_simp; rfl)); intro gb146 hg w62 hbox hb; have n0_ := AM (bT bQ hb); have n1_ := AM (hbox); have n2_ := AM ((by rw [hg]; exact (bZ bQ) : w.heap.size ≤ gb146)); have n3_ := AM ((by rw [hg]; exact (bZ bQ) : w.heap.size ≤ gb146)); clear HB; have HB := n0_; have BK146 := n1_; have GW146 := n2_; have GE146 := n3_; clear n0_ n1_ n2_ n3_; clear hb hbox hg; obtain ⟨_, _, _, _, _, _, _, _, _, _⟩ := bX5 BK146.out) | ((with_reducible refine gC (f := 12) rfl ?_); refine gL (some 6) rfl rfl Tryd.func12 (by kernel_rfl) rfl #[.agg #[.int .i64 a0_0, .int .i64 a0_1, .int .i64 a0_2, .int .i64 a0_3, .bool a0_4]] rfl (by (try simp only [List.map_toArray, List.map_cons, List.map_nil]); first | done | rfl | (simp only [List.length_drop, List.length_take]; rfl)) ?_; (with_reducible refine (code_Check.calls k a0_0 a0_1 a0_2 a0_3 a0_4 t147 _ A2.out).mono ?_); rintro e w64 ⟨rfl, hb⟩; refine ⟨_, rfl, ?_⟩; have n0_ := AM (kB (g := gb146) (o := .cells #[.int .i64 a0_0, .int .i64 a0_1, .int .i64 a0_2, .int .i64 a0_3, .bool a0_4] 23 (0, 0)) (kW BK146) hb); have n1_ := AM (bT bQ hb); clear BK146; clear HB; have BK146 := n0_; have HB := n1_; clear n0_ n1_; (try clear hb); (try clear hb2); (try clear hk); (try clear hi)))
    go_ret
    exact ⟨by first | rfl | (simp [errW_none, errW_some] <;> rfl) | (simp [*, errW_none, errW_some] <;> rfl), by repeat (first | (with_reducible first | exact HB.out | apply bA | apply bD | apply b1 | refine bS ?_ GE146.out) | exact HB.out)⟩

  rw [if_pos c3] at H
  have c3b0 : (t147 == 0) = true := beq_iff_eq.mpr c3
  have c3b1 : (t147 != 0) = false := bne_eq_false_iff_eq.mpr c3
  clear c3
  have HC4 := AM H
  clear H
  go_enter Tryd.func11, Tryd.ntmps11
  go_upto_if 10 with (first | ((with_reducible refine gD (N := 1) rfl ?_); refine bE ?hg (N := 1) ?hd (cs := #[.int .i64 a0_0, .int .i64 a0_1, .int .i64 a0_2, .int .i64 a0_3, .bool a0_4]) (t := 23) ?hr ?_; (case hd => rfl); (case hg => rfl); (case hr => first | (go_simp; done) | (go_simp; rfl)); intro gb146 hg w5 hbox hb; have n0_ := AM (bT bQ hb); have n1_ := AM (hbox); have n2_ := AM ((by rw [hg]; exact (bZ bQ) : w.heap.size ≤ gb146)); have n3_ := AM ((by rw [hg]; exact (bZ bQ) : w.heap.size ≤ gb146)); clear HB; have HB := n0_; have BK146 := n1_; have GW146 := n2_; have GE146 := n3_; clear n0_ n1_ n2_ n3_; clear hb hbox hg; obtain ⟨_, _, _, _, _, _, _, _, _, _⟩ := bX5 BK146.out) | ((with_reducible refine gC (f := 12) rfl ?_); refine gL (some 6) rfl rfl Tryd.func12 (by kernel_rfl) rfl #[.agg #[.int .i64 a0_0, .int .i64 a0_1, .int .i64 a0_2, .int .i64 a0_3, .bool a0_4]] rfl (by (try simp only [List.map_toArray, List.map_cons, List.map_nil]); first | done | rfl | (simp only [List.length_drop, List.length_take]; rfl)) ?_; (with_reducible refine (code_Check.calls k a0_0 a0_1 a0_2 a0_3 a0_4 t147 _ A2.out).mono ?_); rintro e w7 ⟨rfl, hb⟩; refine ⟨_, rfl, ?_⟩; have n0_ := AM (kB (g := gb146) (o := .cells #[.int .i64 a0_0, .int .i64 a0_1, .int .i64 a0_2, .int .i64 a0_3, .bool a0_4] 23 (0, 0)) (kW BK146) hb); have n1_ := AM (bT bQ hb); clear BK146; clear HB; have BK146 := n0_; have HB := n1_; clear n0_ n1_; (try clear hb); (try clear hb2); (try clear hk); (try clear hi); obtain ⟨_, _, _, _, _, _, _, _, _, _⟩ := bX5 BK146.out))
  (try simp only [Act.put, List.setIfInBounds_toArray, List.set_cons_zero, List.set_cons_succ])
  go_cut [3] (fun v3 wc => ∃ (kq : Nat) (x3_3 : ByteArray), v3 = .string x3_3 ∧ Aside0 (code_Text.j0 kq x3_3 a0_0 a0_1 a0_2 a0_3 a0_4 = some r) ∧ Aside0 (kq ≤ k) ∧ Aside0 (wc.heap[gb146]? = some (.cells #[.int .i64 a0_0, .int .i64 a0_1, .int .i64 a0_2, .int .i64 a0_3, .bool a0_4] 23 (0, 0))) ∧ Aside0 (Below w.heap.size w wc))
  case first =>
    have H := HC4.out
    clear HC4
    by_cases c9 : a0_0 > 0
    rotate_left
    · rw [if_neg c9] at H
      have c9b0 : decide (0 < a0_0) = false := decide_eq_false c9
      clear c9
      (first | rw [c9b0] | (simp only [i64_w, i32_w]; rw [c9b0]) | skip)
      have H' := AM H
      clear H
      go_wp2
      go_meet
      case rel => exact ⟨_, ((⟨#[]⟩ : ByteArray)), (by first | rfl | (simp; done) | (simp [*]; done)), H', ⟨by first | omega | exact Nat.le_refl _⟩, ⟨by (with_reducible repeat (first | refine kD ?_ _ | refine k1_ ?_ | refine kA ?_ _)); exact BK146.out⟩, ⟨by repeat (first | (with_reducible first | exact HB.out | apply bA | apply bD | apply b1 | refine bS ?_ GE146.out) | exact HB.out)⟩⟩
    rw [if_pos c9] at H
    have c9b0 : decide (0 < a0_0) = true := decide_eq_true c9
    clear c9
    (first | rw [c9b0] | (simp only [i64_w, i32_w]; rw [c9b0]) | skip)
    obtain ⟨y148, hy148⟩ : ∃ y_ : List Int, y_ = (([(wrap64 (79 + a0_0)) % 256] : List Int)) := ⟨_, rfl⟩
    replace H : (code_Text.j0 k (strOfNums y148) a0_0 a0_1 a0_2 a0_3 a0_4) = some r := by first | (rw [hy148]; with_reducible exact H) | (have H2_ := (Option.bind_some _ _).symm.trans H; rw [hy148]; with_reducible exact H2_) | (have H2_ := (Option.bind_some _ _).symm.trans H; with_reducible exact H2_) | with_reducible exact H | (rw [hy148]; exact H) | exact H
    have Ny148 := AM hy148
    clear hy148
    have H' := AM H
    clear H
    obtain ⟨_, _, _, _, _, _, _, _, _, _⟩ := bX5 BK146.out
    go_wp2_with (first | ((with_reducible refine gD (N := 15) rfl ?_); refine Kd.R_lit (Kd.int .u8) _ 5 ?hg (N := 15) ?hd (xs := ([(wrap64 (79 + a0_0)) % 256] : List Int)) (inner := [.int .u8 ((wrap64 (79 + a0_0)) % 256)]) (ok := fun _ => True) (okp := fun _ => True) ?hr ?hp (fun _ hk => hk) trivial (Below.refl _ _) (Nat.le_refl _) (by simp) ?_; (case hd => rfl); (case hg => rfl); (case hr => first | (go_simp; done) | (go_simp; rfl)); (case hp => exact (Reps.one (show Kd.M (Kd.int .u8) _ _ _ ((wrap64 (79 + a0_0)) % 256) [.int .u8 ((wrap64 (79 + a0_0)) % 256)] from rfl) (Reps.none _ _))); intro v149 w11 ho12 hb hg_ hnew_; clear hg_ hnew_; (first | rw [← Ny148.out] at ho12 | (simp only [Int.reduceToNat] at ho12; rw [← Ny148.out] at ho12)); have n0_ := AM (Kd.R_lower ho12 (bZ bQ)); have n1_ := AM (kB (g := gb146) (o := .cells #[.int .i64 a0_0, .int .i64 a0_1, .int .i64 a0_2, .int .i64 a0_3, .bool a0_4] 23 (0, 0)) (kW BK146) hb); have n2_ := AM (bT bQ hb); clear BK146; clear HB; have HO150 := n0_; have BK146 := n1_; have HB := n2_; clear n0_ n1_ n2_; clear hb ho12; have hcv13 := own_string (P := Tryd.prog) Tryd.underlying43 Tryd.underlying5 Tryd.underlying9 (Kd.own_of_R HO150.out)))
    go_meet
    case rel => exact ⟨_, (strOfNums y148), (by first | rfl | (simp; done) | (simp [*]; done)), H', ⟨by first | omega | exact Nat.le_refl _⟩, ⟨by (with_reducible repeat (first | refine kD ?_ _ | refine k1_ ?_ | refine kA ?_ _)); exact BK146.out⟩, ⟨by repeat (first | (with_reducible first | exact HB.out | apply bA | apply bD | apply b1 | refine bS ?_ GE146.out) | exact HB.out)⟩⟩
  case rest =>
    clear HC4
    obtain ⟨kq, x3_3, rfl, HA, HJ3, BK146, HB⟩ := hcut
    cases kq with
    | zero => exact absurd HA.out (by simp [code_Text.j0])
    | succ kj3 =>
      have H := HA.out
      clear HA
      simp only [code_Text.j0] at H
      replace H := Option.bind_eq_some_iff.mp H
      obtain ⟨t151, A140, H⟩ := H
      replace H : (if a0_1 = 1 then (if t151.size + 1 ≤ 9223372036854775807 then (if x3_3.size + (t151 ++ (⟨#[76]⟩ : ByteArray)).size ≤ 9223372036854775807 then (if a0_4 = true then (if (x3_3 ++ (t151 ++ (⟨#[76]⟩ : ByteArray))).size + 1 ≤ 9223372036854775807 then (some ((x3_3 ++ (t151 ++ (⟨#[76]⟩ : ByteArray))) ++ (⟨#[88]⟩ : ByteArray))) else (none)) else (some (x3_3 ++ (t151 ++ (⟨#[76]⟩ : ByteArray))))) else (none)) else (none)) else (if a0_1 = 2 then (if 1 + t151.size ≤ 9223372036854775807 then (if x3_3.size + ((⟨#[75]⟩ : ByteArray) ++ t151).size ≤ 9223372036854775807 then (if a0_4 = true then (if (x3_3 ++ ((⟨#[75]⟩ : ByteArray) ++ t151)).size + 1 ≤ 9223372036854775807 then (some ((x3_3 ++ ((⟨#[75]⟩ : ByteArray) ++ t151)) ++ (⟨#[88]⟩ : ByteArray))) else (none)) else (some (x3_3 ++ ((⟨#[75]⟩ : ByteArray) ++ t151)))) else (none)) else (none)) else (if a0_1 = 3 then ((strconv_Itoa_23.f a0_3).bind fun t152 => (if 1 + t152.size ≤ 9223372036854775807 then (if x3_3.size + ((⟨#[68]⟩ : ByteArray) ++ t152).size ≤ 9223372036854775807 then (if a0_4 = true then (if (x3_3 ++ ((⟨#[68]⟩ : ByteArray) ++ t152)).size + 1 ≤ 9223372036854775807 then (some ((x3_3 ++ ((⟨#[68]⟩ : ByteArray) ++ t152)) ++ (⟨#[88]⟩ : ByteArray))) else (none)) else (some (x3_3 ++ ((⟨#[68]⟩ : ByteArray) ++ t152)))) else (none)) else (none))) else (if x3_3.size + 2 ≤ 9223372036854775807 then (if a0_4 = true then (if (x3_3 ++ (⟨#[78, 84]⟩ : ByteArray)).size + 1 ≤ 9223372036854775807 then (some ((x3_3 ++ (⟨#[78, 84]⟩ : ByteArray)) ++ (⟨#[88]⟩ : ByteArray))) else (none)) else (some (x3_3 ++ (⟨#[78, 84]⟩ : ByteArray)))) else (none))))) = some r := H
      have A14 := AM A140
      clear A140
      by_cases c15 : a0_1 = 1
      · rw [if_pos c15] at H
        have c15b0 : (a0_1 == 1) = true := beq_iff_eq.mpr c15
        have c15b1 : (a0_1 != 1) = false := bne_eq_false_iff_eq.mpr c15
        clear c15
        by_cases c16 : t151.size + 1 ≤ 9223372036854775807
        rotate_left
        · rw [if_neg c16] at H
          exact absurd H (by simp)
        rw [if_pos c16] at H
        have c16b0 := eq_true c16
        have c16b1 : decide (t151.size + 1 ≤ 9223372036854775807) = true := decide_eq_true c16
        try have c16b2 : (9223372036854775807 < t151.size + 1) = False := eq_false (Nat.not_lt.2 c16)
        by_cases c17 : x3_3.size + (t151 ++ (⟨#[76]⟩ : ByteArray)).size ≤ 9223372036854775807
        rotate_left
        · rw [if_neg c17] at H
          exact absurd H (by simp)
        rw [if_pos c17] at H
        have c17b0 := eq_true c17
        have c17b1 : decide (x3_3.size + (t151 ++ (⟨#[76]⟩ : ByteArray)).size ≤ 9223372036854775807) = true := decide_eq_true c17
        try have c17b2 : (9223372036854775807 < x3_3.size + (t151 ++ (⟨#[76]⟩ : ByteArray)).size) = False := eq_false (Nat.not_lt.2 c17)
        try have c17b3 : (9223372036854775807 < x3_3.size + (t151.size + 1)) = False := eq_false (Nat.not_lt.2 (by have h := c17; simp only [ByteArray.size_append] at h; exact h))
        by_cases c18 : a0_4 = true
        rotate_left
        · replace c18 := Bool.eq_false_iff.mpr c18
          subst c18
          have H1 : (some (x3_3 ++ (t151 ++ (⟨#[76]⟩ : ByteArray)))) = some r := by rw [if_neg (show ¬ (false = true) by decide)] at H; exact H
          clear H
          have H := H1
          clear H1
          obtain rfl := Option.some.inj H
          obtain ⟨_, _, _, _, _, _, _, _, _, _⟩ := bX5 BK146.out
          go_wp2_with (first | ((with_reducible refine gC (f := 22) rfl ?_); refine gL (some 20) rfl rfl Tryd.func22 (by kernel_rfl) rfl #[.int .i64 (wrap64 (Int.tdiv a0_2 1000)), .int .i64 10] rfl (by (try simp only [List.map_toArray, List.map_cons, List.map_nil]); first | done | rfl | (simp only [List.length_drop, List.length_take]; rfl)) ?_; (with_reducible refine (strconv_FormatInt_22.calls (wrap64 (Int.tdiv a0_2 1000)) 10 t151 _ A14.out (tQ htb)).mono ?_); rintro e w24 ⟨rfl, hb⟩; refine ⟨_, rfl, ?_⟩; have n0_ := AM (kB (g := gb146) (o := .cells #[.int .i64 a0_0, .int .i64 a0_1, .int .i64 a0_2, .int .i64 a0_3, .bool false] 23 (0, 0)) (kW BK146) hb); have n1_ := AM (bT bQ hb); clear BK146; clear HB; have BK146 := n0_; have HB := n1_; clear n0_ n1_; (try clear hb); (try clear hb2); (try clear hk); (try clear hi); obtain ⟨_, _, _, _, _, _, _, _, _, _⟩ := bX5 BK146.out))
          go_ret
          exact ⟨by first | rfl | (simp [errW_none, errW_some] <;> rfl) | (simp [*, errW_none, errW_some] <;> rfl), by repeat (first | (with_reducible first | exact HB.out | apply bA | apply bD | apply b1 | refine bS ?_ GE146.out) | exact HB.out)⟩
        subst c18
        have H1 : (if (x3_3 ++ (t151 ++ (⟨#[76]⟩ : ByteArray))).size + 1 ≤ 9223372036854775807 then (some ((x3_3 ++ (t151 ++ (⟨#[76]⟩ : ByteArray))) ++ (⟨#[88]⟩ : ByteArray))) else (none)) = some r := by rw [if_pos rfl] at H; exact H
        clear H
        have H := H1
        clear H1
        by_cases c19 : (x3_3 ++ (t151 ++ (⟨#[76]⟩ : ByteArray))).size + 1 ≤ 9223372036854775807
        rotate_left
        · rw [if_neg c19] at H
          exact absurd H (by simp)
        rw [if_pos c19] at H
        have c19b0 := eq_true c19
        have c19b1 : decide ((x3_3 ++ (t151 ++ (⟨#[76]⟩ : ByteArray))).size + 1 ≤ 9223372036854775807) = true := decide_eq_true c19
        try have c19b2 : (9223372036854775807 < (x3_3 ++ (t151 ++ (⟨#[76]⟩ : ByteArray))).size + 1) = False := eq_false (Nat.not_lt.2 c19)
        try have c19b3 : (9223372036854775807 < x3_3.size + (t151.size + 1) + 1) = False := eq_false (Nat.not_lt.2 (by have h := c19; simp only [ByteArray.size_append] at h; exact h))
        obtain rfl := Option.some.inj H
        obtain ⟨_, _, _, _, _, _, _, _, _, _⟩ := bX5 BK146.out
        go_wp2_with (first | ((with_reducible refine gC (f := 22) rfl ?_); refine gL (some 20) rfl rfl Tryd.func22 (by kernel_rfl) rfl #[.int .i64 (wrap64 (Int.tdiv a0_2 1000)), .int .i64 10] rfl (by (try simp only [List.map_toArray, List.map_cons, List.map_nil]); first | done | rfl | (simp only [List.length_drop, List.length_take]; rfl)) ?_; (with_reducible refine (strconv_FormatInt_22.calls (wrap64 (Int.tdiv a0_2 1000)) 10 t151 _ A14.out (tQ htb)).mono ?_); rintro e w21 ⟨rfl, hb⟩; refine ⟨_, rfl, ?_⟩; have n0_ := AM (kB (g := gb146) (o := .cells #[.int .i64 a0_0, .int .i64 a0_1, .int .i64 a0_2, .int .i64 a0_3, .bool true] 23 (0, 0)) (kW BK146) hb); have n1_ := AM (bT bQ hb); clear BK146; clear HB; have BK146 := n0_; have HB := n1_; clear n0_ n1_; (try clear hb); (try clear hb2); (try clear hk); (try clear hi); obtain ⟨_, _, _, _, _, _, _, _, _, _⟩ := bX5 BK146.out))
        go_ret
        exact ⟨by first | rfl | (simp [errW_none, errW_some] <;> rfl) | (simp [*, errW_none, errW_some] <;> rfl), by repeat (first | (with_reducible first | exact HB.out | apply bA | apply bD | apply b1 | refine bS ?_ GE146.out) | exact HB.out)⟩
      rw [if_neg c15] at H
      have c15b0 : (a0_1 == 1) = false := beq_eq_false_iff_ne.mpr c15
      have c15b1 : (a0_1 != 1) = true := bne_iff_ne.mpr c15
      by_cases c26 : a0_1 = 2
      · rw [if_pos c26] at H
        have c26b0 : (a0_1 == 2) = true := beq_iff_eq.mpr c26
        have c26b1 : (a0_1 != 2) = false := bne_eq_false_iff_eq.mpr c26
        clear c26
        by_cases c27 : 1 + t151.size ≤ 9223372036854775807
        rotate_left
        · rw [if_neg c27] at H
          exact absurd H (by simp)
        rw [if_pos c27] at H
        have c27b0 := eq_true c27
        have c27b1 : decide (1 + t151.size ≤ 9223372036854775807) = true := decide_eq_true c27
        try have c27b2 : (9223372036854775807 < 1 + t151.size) = False := eq_false (Nat.not_lt.2 c27)
        by_cases c28 : x3_3.size + ((⟨#[75]⟩ : ByteArray) ++ t151).size ≤ 9223372036854775807
        rotate_left
        · rw [if_neg c28] at H
          exact absurd H (by simp)
        rw [if_pos c28] at H
        have c28b0 := eq_true c28
        have c28b1 : decide (x3_3.size + ((⟨#[75]⟩ : ByteArray) ++ t151).size ≤ 9223372036854775807) = true := decide_eq_true c28
        try have c28b2 : (9223372036854775807 < x3_3.size + ((⟨#[75]⟩ : ByteArray) ++ t151).size) = False := eq_false (Nat.not_lt.2 c28)
        try have c28b3 : (9223372036854775807 < x3_3.size + (1 + t151.size)) = False := eq_false (Nat.not_lt.2 (by have h := c28; simp only [ByteArray.size_append] at h; exact h))
        by_cases c29 : a0_4 = true
        rotate_left
        · replace c29 := Bool.eq_false_iff.mpr c29
          subst c29
          have H1 : (some (x3_3 ++ ((⟨#[75]⟩ : ByteArray) ++ t151))) = some r := by rw [if_neg (show ¬ (false = true) by decide)] at H; exact H
          clear H
          have H := H1
          clear H1
          obtain rfl := Option.some.inj H
          obtain ⟨_, _, _, _, _, _, _, _, _, _⟩ := bX5 BK146.out
          go_wp2_with (first | ((with_reducible refine gC (f := 22) rfl ?_); refine gL (some 20) rfl rfl Tryd.func22 (by kernel_rfl) rfl #[.int .i64 (wrap64 (Int.tdiv a0_2 1000)), .int .i64 10] rfl (by (try simp only [List.map_toArray, List.map_cons, List.map_nil]); first | done | rfl | (simp only [List.length_drop, List.length_take]; rfl)) ?_; (with_reducible refine (strconv_FormatInt_22.calls (wrap64 (Int.tdiv a0_2 1000)) 10 t151 _ A14.out (tQ htb)).mono ?_); rintro e w35 ⟨rfl, hb⟩; refine ⟨_, rfl, ?_⟩; have n0_ := AM (kB (g := gb146) (o := .cells #[.int .i64 a0_0, .int .i64 a0_1, .int .i64 a0_2, .int .i64 a0_3, .bool false] 23 (0, 0)) (kW BK146) hb); have n1_ := AM (bT bQ hb); clear BK146; clear HB; have BK146 := n0_; have HB := n1_; clear n0_ n1_; (try clear hb); (try clear hb2); (try clear hk); (try clear hi); obtain ⟨_, _, _, _, _, _, _, _, _, _⟩ := bX5 BK146.out))
          go_ret
          exact ⟨by first | rfl | (simp [errW_none, errW_some] <;> rfl) | (simp [*, errW_none, errW_some] <;> rfl), by repeat (first | (with_reducible first | exact HB.out | apply bA | apply bD | apply b1 | refine bS ?_ GE146.out) | exact HB.out)⟩
        subst c29
        have H1 : (if (x3_3 ++ ((⟨#[75]⟩ : ByteArray) ++ t151)).size + 1 ≤ 9223372036854775807 then (some ((x3_3 ++ ((⟨#[75]⟩ : ByteArray) ++ t151)) ++ (⟨#[88]⟩ : ByteArray))) else (none)) = some r := by rw [if_pos rfl] at H; exact H
        clear H
        have H := H1
        clear H1
        by_cases c30 : (x3_3 ++ ((⟨#[75]⟩ : ByteArray) ++ t151)).size + 1 ≤ 9223372036854775807
        rotate_left
        · rw [if_neg c30] at H
          exact absurd H (by simp)
        rw [if_pos c30] at H
        have c30b0 := eq_true c30
        have c30b1 : decide ((x3_3 ++ ((⟨#[75]⟩ : ByteArray) ++ t151)).size + 1 ≤ 9223372036854775807) = true := decide_eq_true c30
        try have c30b2 : (9223372036854775807 < (x3_3 ++ ((⟨#[75]⟩ : ByteArray) ++ t151)).size + 1) = False := eq_false (Nat.not_lt.2 c30)
        try have c30b3 : (9223372036854775807 < x3_3.size + (1 + t151.size) + 1) = False := eq_false (Nat.not_lt.2 (by have h := c30; simp only [ByteArray.size_append] at h; exact h))
        obtain rfl := Option.some.inj H
        obtain ⟨_, _, _, _, _, _, _, _, _, _⟩ := bX5 BK146.out
        go_wp2_with (first | ((with_reducible refine gC (f := 22) rfl ?_); refine gL (some 20) rfl rfl Tryd.func22 (by kernel_rfl) rfl #[.int .i64 (wrap64 (Int.tdiv a0_2 1000)), .int .i64 10] rfl (by (try simp only [List.map_toArray, List.map_cons, List.map_nil]); first | done | rfl | (simp only [List.length_drop, List.length_take]; rfl)) ?_; (with_reducible refine (strconv_FormatInt_22.calls (wrap64 (Int.tdiv a0_2 1000)) 10 t151 _ A14.out (tQ htb)).mono ?_); rintro e w32 ⟨rfl, hb⟩; refine ⟨_, rfl, ?_⟩; have n0_ := AM (kB (g := gb146) (o := .cells #[.int .i64 a0_0, .int .i64 a0_1, .int .i64 a0_2, .int .i64 a0_3, .bool true] 23 (0, 0)) (kW BK146) hb); have n1_ := AM (bT bQ hb); clear BK146; clear HB; have BK146 := n0_; have HB := n1_; clear n0_ n1_; (try clear hb); (try clear hb2); (try clear hk); (try clear hi); obtain ⟨_, _, _, _, _, _, _, _, _, _⟩ := bX5 BK146.out))
        go_ret
        exact ⟨by first | rfl | (simp [errW_none, errW_some] <;> rfl) | (simp [*, errW_none, errW_some] <;> rfl), by repeat (first | (with_reducible first | exact HB.out | apply bA | apply bD | apply b1 | refine bS ?_ GE146.out) | exact HB.out)⟩
      rw [if_neg c26] at H
      have c26b0 : (a0_1 == 2) = false := beq_eq_false_iff_ne.mpr c26
      have c26b1 : (a0_1 != 2) = true := bne_iff_ne.mpr c26
      by_cases c37 : a0_1 = 3
      rotate_left
      · rw [if_neg c37] at H
        have c37b0 : (a0_1 == 3) = false := beq_eq_false_iff_ne.mpr c37
        have c37b1 : (a0_1 != 3) = true := bne_iff_ne.mpr c37
        by_cases c53 : x3_3.size + 2 ≤ 9223372036854775807
        rotate_left
        · rw [if_neg c53] at H
          exact absurd H (by simp)
        rw [if_pos c53] at H
        have c53b0 := eq_true c53
        have c53b1 : decide (x3_3.size + 2 ≤ 9223372036854775807) = true := decide_eq_true c53
        try have c53b2 : (9223372036854775807 < x3_3.size + 2) = False := eq_false (Nat.not_lt.2 c53)
        by_cases c54 : a0_4 = true
        rotate_left
        · replace c54 := Bool.eq_false_iff.mpr c54
          subst c54
          have H1 : (some (x3_3 ++ (⟨#[78, 84]⟩ : ByteArray))) = some r := by rw [if_neg (show ¬ (false = true) by decide)] at H; exact H
          clear H
          have H := H1
          clear H1
          obtain rfl := Option.some.inj H
          obtain ⟨_, _, _, _, _, _, _, _, _, _⟩ := bX5 BK146.out
          go_wp2_with (first | ((with_reducible refine gC (f := 22) rfl ?_); refine gL (some 20) rfl rfl Tryd.func22 (by kernel_rfl) rfl #[.int .i64 (wrap64 (Int.tdiv a0_2 1000)), .int .i64 10] rfl (by (try simp only [List.map_toArray, List.map_cons, List.map_nil]); first | done | rfl | (simp only [List.length_drop, List.length_take]; rfl)) ?_; (with_reducible refine (strconv_FormatInt_22.calls (wrap64 (Int.tdiv a0_2 1000)) 10 t151 _ A14.out (tQ htb)).mono ?_); rintro e w60 ⟨rfl, hb⟩; refine ⟨_, rfl, ?_⟩; have n0_ := AM (kB (g := gb146) (o := .cells #[.int .i64 a0_0, .int .i64 a0_1, .int .i64 a0_2, .int .i64 a0_3, .bool false] 23 (0, 0)) (kW BK146) hb); have n1_ := AM (bT bQ hb); clear BK146; clear HB; have BK146 := n0_; have HB := n1_; clear n0_ n1_; (try clear hb); (try clear hb2); (try clear hk); (try clear hi); obtain ⟨_, _, _, _, _, _, _, _, _, _⟩ := bX5 BK146.out))
          go_ret
          exact ⟨by first | rfl | (simp [errW_none, errW_some] <;> rfl) | (simp [*, errW_none, errW_some] <;> rfl), by repeat (first | (with_reducible first | exact HB.out | apply bA | apply bD | apply b1 | refine bS ?_ GE146.out) | exact HB.out)⟩
        subst c54
        have H1 : (if (x3_3 ++ (⟨#[78, 84]⟩ : ByteArray)).size + 1 ≤ 9223372036854775807 then (some ((x3_3 ++ (⟨#[78, 84]⟩ : ByteArray)) ++ (⟨#[88]⟩ : ByteArray))) else (none)) = some r := by rw [if_pos rfl] at H; exact H
        clear H
        have H := H1
        clear H1
        by_cases c55 : (x3_3 ++ (⟨#[78, 84]⟩ : ByteArray)).size + 1 ≤ 9223372036854775807
        rotate_left
        · rw [if_neg c55] at H
          exact absurd H (by simp)
        rw [if_pos c55] at H
        have c55b0 := eq_true c55
        have c55b1 : decide ((x3_3 ++ (⟨#[78, 84]⟩ : ByteArray)).size + 1 ≤ 9223372036854775807) = true := decide_eq_true c55
        try have c55b2 : (9223372036854775807 < (x3_3 ++ (⟨#[78, 84]⟩ : ByteArray)).size + 1) = False := eq_false (Nat.not_lt.2 c55)
        try have c55b3 : (9223372036854775807 < x3_3.size + 2 + 1) = False := eq_false (Nat.not_lt.2 (by have h := c55; simp only [ByteArray.size_append] at h; exact h))
        obtain rfl := Option.some.inj H
        obtain ⟨_, _, _, _, _, _, _, _, _, _⟩ := bX5 BK146.out
        go_wp2_with (first | ((with_reducible refine gC (f := 22) rfl ?_); refine gL (some 20) rfl rfl Tryd.func22 (by kernel_rfl) rfl #[.int .i64 (wrap64 (Int.tdiv a0_2 1000)), .int .i64 10] rfl (by (try simp only [List.map_toArray, List.map_cons, List.map_nil]); first | done | rfl | (simp only [List.length_drop, List.length_take]; rfl)) ?_; (with_reducible refine (strconv_FormatInt_22.calls (wrap64 (Int.tdiv a0_2 1000)) 10 t151 _ A14.out (tQ htb)).mono ?_); rintro e w57 ⟨rfl, hb⟩; refine ⟨_, rfl, ?_⟩; have n0_ := AM (kB (g := gb146) (o := .cells #[.int .i64 a0_0, .int .i64 a0_1, .int .i64 a0_2, .int .i64 a0_3, .bool true] 23 (0, 0)) (kW BK146) hb); have n1_ := AM (bT bQ hb); clear BK146; clear HB; have BK146 := n0_; have HB := n1_; clear n0_ n1_; (try clear hb); (try clear hb2); (try clear hk); (try clear hi); obtain ⟨_, _, _, _, _, _, _, _, _, _⟩ := bX5 BK146.out))
        go_ret
        exact ⟨by first | rfl | (simp [errW_none, errW_some] <;> rfl) | (simp [*, errW_none, errW_some] <;> rfl), by repeat (first | (with_reducible first | exact HB.out | apply bA | apply bD | apply b1 | refine bS ?_ GE146.out) | exact HB.out)⟩
      rw [if_pos c37] at H
      have c37b0 : (a0_1 == 3) = true := beq_iff_eq.mpr c37
      have c37b1 : (a0_1 != 3) = false := bne_eq_false_iff_eq.mpr c37
      clear c37
      replace H := Option.bind_eq_some_iff.mp H
      obtain ⟨t152, A380, H⟩ := H
      replace H : (if 1 + t152.size ≤ 9223372036854775807 then (if x3_3.size + ((⟨#[68]⟩ : ByteArray) ++ t152).size ≤ 9223372036854775807 then (if a0_4 = true then (if (x3_3 ++ ((⟨#[68]⟩ : ByteArray) ++ t152)).size + 1 ≤ 9223372036854775807 then (some ((x3_3 ++ ((⟨#[68]⟩ : ByteArray) ++ t152)) ++ (⟨#[88]⟩ : ByteArray))) else (none)) else (some (x3_3 ++ ((⟨#[68]⟩ : ByteArray) ++ t152)))) else (none)) else (none)) = some r := H
      have A38 := AM A380
      clear A380
      by_cases c39 : 1 + t152.size ≤ 9223372036854775807
      rotate_left
      · rw [if_neg c39] at H
        exact absurd H (by simp)
      rw [if_pos c39] at H
      have c39b0 := eq_true c39
      have c39b1 : decide (1 + t152.size ≤ 9223372036854775807) = true := decide_eq_true c39
      try have c39b2 : (9223372036854775807 < 1 + t152.size) = False := eq_false (Nat.not_lt.2 c39)
      by_cases c40 : x3_3.size + ((⟨#[68]⟩ : ByteArray) ++ t152).size ≤ 9223372036854775807
      rotate_left
      · rw [if_neg c40] at H
        exact absurd H (by simp)
      rw [if_pos c40] at H
      have c40b0 := eq_true c40
      have c40b1 : decide (x3_3.size + ((⟨#[68]⟩ : ByteArray) ++ t152).size ≤ 9223372036854775807) = true := decide_eq_true c40
      try have c40b2 : (9223372036854775807 < x3_3.size + ((⟨#[68]⟩ : ByteArray) ++ t152).size) = False := eq_false (Nat.not_lt.2 c40)
      try have c40b3 : (9223372036854775807 < x3_3.size + (1 + t152.size)) = False := eq_false (Nat.not_lt.2 (by have h := c40; simp only [ByteArray.size_append] at h; exact h))
      by_cases c41 : a0_4 = true
      rotate_left
      · replace c41 := Bool.eq_false_iff.mpr c41
        subst c41
        have H1 : (some (x3_3 ++ ((⟨#[68]⟩ : ByteArray) ++ t152))) = some r := by rw [if_neg (show ¬ (false = true) by decide)] at H; exact H
        clear H
        have H := H1
        clear H1
        obtain rfl := Option.some.inj H
        obtain ⟨_, _, _, _, _, _, _, _, _, _⟩ := bX5 BK146.out
        go_wp2_with (first | ((with_reducible refine gC (f := 22) rfl ?_); refine gL (some 20) rfl rfl Tryd.func22 (by kernel_rfl) rfl #[.int .i64 (wrap64 (Int.tdiv a0_2 1000)), .int .i64 10] rfl (by (try simp only [List.map_toArray, List.map_cons, List.map_nil]); first | done | rfl | (simp only [List.length_drop, List.length_take]; rfl)) ?_; (with_reducible refine (strconv_FormatInt_22.calls (wrap64 (Int.tdiv a0_2 1000)) 10 t151 _ A14.out (tQ htb)).mono ?_); rintro e w49 ⟨rfl, hb⟩; refine ⟨_, rfl, ?_⟩; have n0_ := AM (kB (g := gb146) (o := .cells #[.int .i64 a0_0, .int .i64 a0_1, .int .i64 a0_2, .int .i64 a0_3, .bool false] 23 (0, 0)) (kW BK146) hb); have n1_ := AM (bT bQ hb); clear BK146; clear HB; have BK146 := n0_; have HB := n1_; clear n0_ n1_; (try clear hb); (try clear hb2); (try clear hk); (try clear hi); obtain ⟨_, _, _, _, _, _, _, _, _, _⟩ := bX5 BK146.out) | ((with_reducible refine gC (f := 23) rfl ?_); refine gL (some 42) rfl rfl Tryd.func23 (by kernel_rfl) rfl #[.int .i64 a0_3] rfl (by (try simp only [List.map_toArray, List.map_cons, List.map_nil]); first | done | rfl | (simp only [List.length_drop, List.length_take]; rfl)) ?_; (with_reducible refine (strconv_Itoa_23.calls a0_3 t152 _ A38.out (tQ htb)).mono ?_); rintro e w51 ⟨rfl, hb⟩; refine ⟨_, rfl, ?_⟩; have n0_ := AM (kB (g := gb146) (o := .cells #[.int .i64 a0_0, .int .i64 a0_1, .int .i64 a0_2, .int .i64 a0_3, .bool false] 23 (0, 0)) (kW BK146) hb); have n1_ := AM (bT bQ hb); clear BK146; clear HB; have BK146 := n0_; have HB := n1_; clear n0_ n1_; (try clear hb); (try clear hb2); (try clear hk); (try clear hi); obtain ⟨_, _, _, _, _, _, _, _, _, _⟩ := bX5 BK146.out))
        go_ret
        exact ⟨by first | rfl | (simp [errW_none, errW_some] <;> rfl) | (simp [*, errW_none, errW_some] <;> rfl), by repeat (first | (with_reducible first | exact HB.out | apply bA | apply bD | apply b1 | refine bS ?_ GE146.out) | exact HB.out)⟩
      subst c41
      have H1 : (if (x3_3 ++ ((⟨#[68]⟩ : ByteArray) ++ t152)).size + 1 ≤ 9223372036854775807 then (some ((x3_3 ++ ((⟨#[68]⟩ : ByteArray) ++ t152)) ++ (⟨#[88]⟩ : ByteArray))) else (none)) = some r := by rw [if_pos rfl] at H; exact H
      clear H
      have H := H1
      clear H1
      by_cases c42 : (x3_3 ++ ((⟨#[68]⟩ : ByteArray) ++ t152)).size + 1 ≤ 9223372036854775807
      rotate_left
      · rw [if_neg c42] at H
        exact absurd H (by simp)
      rw [if_pos c42] at H
      have c42b0 := eq_true c42
      have c42b1 : decide ((x3_3 ++ ((⟨#[68]⟩ : ByteArray) ++ t152)).size + 1 ≤ 9223372036854775807) = true := decide_eq_true c42
      try have c42b2 : (9223372036854775807 < (x3_3 ++ ((⟨#[68]⟩ : ByteArray) ++ t152)).size + 1) = False := eq_false (Nat.not_lt.2 c42)
      try have c42b3 : (9223372036854775807 < x3_3.size + (1 + t152.size) + 1) = False := eq_false (Nat.not_lt.2 (by have h := c42; simp only [ByteArray.size_append] at h; exact h))
      obtain rfl := Option.some.inj H
      obtain ⟨_, _, _, _, _, _, _, _, _, _⟩ := bX5 BK146.out
      go_wp2_with (first | ((with_reducible refine gC (f := 22) rfl ?_); refine gL (some 20) rfl rfl Tryd.func22 (by kernel_rfl) rfl #[.int .i64 (wrap64 (Int.tdiv a0_2 1000)), .int .i64 10] rfl (by (try simp only [List.map_toArray, List.map_cons, List.map_nil]); first | done | rfl | (simp only [List.length_drop, List.length_take]; rfl)) ?_; (with_reducible refine (strconv_FormatInt_22.calls (wrap64 (Int.tdiv a0_2 1000)) 10 t151 _ A14.out (tQ htb)).mono ?_); rintro e w44 ⟨rfl, hb⟩; refine ⟨_, rfl, ?_⟩; have n0_ := AM (kB (g := gb146) (o := .cells #[.int .i64 a0_0, .int .i64 a0_1, .int .i64 a0_2, .int .i64 a0_3, .bool true] 23 (0, 0)) (kW BK146) hb); have n1_ := AM (bT bQ hb); clear BK146; clear HB; have BK146 := n0_; have HB := n1_; clear n0_ n1_; (try clear hb); (try clear hb2); (try clear hk); (try clear hi); obtain ⟨_, _, _, _, _, _, _, _, _, _⟩ := bX5 BK146.out) | ((with_reducible refine gC (f := 23) rfl ?_); refine gL (some 42) rfl rfl Tryd.func23 (by kernel_rfl) rfl #[.int .i64 a0_3] rfl (by (try simp only [List.map_toArray, List.map_cons, List.map_nil]); first | done | rfl | (simp only [List.length_drop, List.length_take]; rfl)) ?_; (with_reducible refine (strconv_Itoa_23.calls a0_3 t152 _ A38.out (tQ htb)).mono ?_); rintro e w46 ⟨rfl, hb⟩; refine ⟨_, rfl, ?_⟩; have n0_ := AM (kB (g := gb146) (o := .cells #[.int .i64 a0_0, .int .i64 a0_1, .int .i64 a0_2, .int .i64 a0_3, .bool true] 23 (0, 0)) (kW BK146) hb); have n1_ := AM (bT bQ hb); clear BK146; clear HB; have BK146 := n0_; have HB := n1_; clear n0_ n1_; (try clear hb); (try clear hb2); (try clear hk); (try clear hi); obtain ⟨_, _, _, _, _, _, _, _, _, _⟩ := bX5 BK146.out))
      go_ret
      exact ⟨by first | rfl | (simp [errW_none, errW_some] <;> rfl) | (simp [*, errW_none, errW_some] <;> rfl), by repeat (first | (with_reducible first | exact HB.out | apply bA | apply bD | apply b1 | refine bS ?_ GE146.out) | exact HB.out)⟩
/-! ### money_Right: function 32 -/
def money_Right.l0 : Nat → List Int → Int → Int → Option (Bool)
  | 0, _, _, _ => none
  | k + 1, x5, x6, x7 => if x7 < x6 then (if 0 ≤ x7 then (if x7 < (x5.length : Int) then (if (rd x5 x7) > 100000000000 then (some false) else (if (rd x5 x7) < (-100000000000) then (some false) else (money_Right.l0 k x5 x6 (wrap64 (x7 + 1))))) else (none)) else (none)) else (some true)
def money_Right.f (k : Nat) (l0 : List Int) : Option (Bool) := money_Right.l0 k l0 (l0.length : Int) 0
set_option maxHeartbeats 8000000 in
set_option maxRecDepth 100000 in
theorem money_Right.calls (k : Nat) (A0 : Option Addr) (c0 : Nat) (l0 : List Int) (r : Bool) (w : World) (hr0 : Kd.C (Kd.int .i64) w A0 l0.length l0) (hc0 : l0.length ≤ c0) (h : money_Right.f k l0 = some r) :
    Calls Tryd.prog 32 #[.slice A0 l0.length c0] w fun e w' => e = .returned (.bool r) ∧ Drawn0 w w' := by
  have HR0 := AM hr0
  have HC0 := AM hc0
  clear hr0 hc0
  have H : (money_Right.l0 k l0 (l0.length : Int) 0) = some r := h
  clear h
  have H' := AM H
  clear H
  go_enter Tryd.func32, Tryd.ntmps32
  go_wp2
  go_loopg [7] k (fun kq v7 w' => ∃ (x7_1 : Int), v7 = .int .i64 x7_1 ∧ Aside0 (money_Right.l0 kq l0 (l0.length : Int) x7_1 = some r) ∧ Aside0 (kq ≤ k) ∧ Drawn0 w w')
  case atStart => exact ⟨(0), (by first | rfl | (simp; done) | (simp [*]; done)), H', ⟨Nat.le_refl _⟩, by repeat (first | exact Drawn0.refl _ | apply Drawn0.step)⟩
  case round =>
    clear H'
    obtain ⟨x7_1, rfl, HA, HK1, ⟨m1, rfl⟩⟩ := hrel
    cases gk with
    | zero => exact absurd HA.out (by simp [money_Right.l0])
    | succ k1 =>
      have H := HA.out
      clear HA
      simp only [money_Right.l0] at H
      by_cases c2 : x7_1 < (l0.length : Int)
      rotate_left
      · rw [if_neg c2] at H
        have c2b0 := decide_eq_false c2
        clear c2
        obtain rfl := Option.some.inj H
        go_wp2
        go_ret
        exact ⟨by first | rfl | (simp; done) | (simp [*]; done), by repeat (first | exact Drawn0.refl _ | apply Drawn0.step)⟩

      rw [if_pos c2] at H
      have c2b0 := decide_eq_true c2
      clear c2
      by_cases c3 : 0 ≤ x7_1
      rotate_left
      · rw [if_neg c3] at H
        exact absurd H (by simp)
      rw [if_pos c3] at H
      have c3b0 := decide_eq_true c3
      clear c3
      by_cases c4 : x7_1 < (l0.length : Int)
      rotate_left
      · rw [if_neg c4] at H
        exact absurd H (by simp)
      rw [if_pos c4] at H
      have c4b0 := decide_eq_true c4
      clear c4
      by_cases c5 : (rd l0 x7_1) > 100000000000
      · rw [if_pos c5] at H
        have c5b0 : decide (100000000000 < (rd l0 x7_1)) = true := decide_eq_true c5
        clear c5
        obtain rfl := Option.some.inj H
        have p153 : 0 ≤ (x7_1 : Int) := of_decide_eq_true (by first | (with_reducible assumption) | assumption)
        have q153 : x7_1 < (l0.length : Int) := of_decide_eq_true (by first | (with_reducible assumption) | assumption)
        obtain ⟨ad153, e153, hx153_0⟩ := Kd.at_int HR0.out x7_1 p153 q153
        cases e153
        replace p153 := eq_true p153
        replace q153 := eq_true q153
        go_wp2
        go_ret
        exact ⟨by first | rfl | (simp; done) | (simp [*]; done), by repeat (first | exact Drawn0.refl _ | apply Drawn0.step)⟩
      rw [if_neg c5] at H
      have c5b0 : decide (100000000000 < (rd l0 x7_1)) = false := decide_eq_false c5
      clear c5
      by_cases c6 : (rd l0 x7_1) < (-100000000000)
      · rw [if_pos c6] at H
        have c6b0 := decide_eq_true c6
        clear c6
        obtain rfl := Option.some.inj H
        have p153 : 0 ≤ (x7_1 : Int) := of_decide_eq_true (by first | (with_reducible assumption) | assumption)
        have q153 : x7_1 < (l0.length : Int) := of_decide_eq_true (by first | (with_reducible assumption) | assumption)
        obtain ⟨ad153, e153, hx153_0⟩ := Kd.at_int HR0.out x7_1 p153 q153
        cases e153
        replace p153 := eq_true p153
        replace q153 := eq_true q153
        go_wp2
        go_ret
        exact ⟨by first | rfl | (simp; done) | (simp [*]; done), by repeat (first | exact Drawn0.refl _ | apply Drawn0.step)⟩
      rw [if_neg c6] at H
      have c6b0 := decide_eq_false c6
      clear c6
      have H' := AM H
      clear H
      have p153 : 0 ≤ (x7_1 : Int) := of_decide_eq_true (by first | (with_reducible assumption) | assumption)
      have q153 : x7_1 < (l0.length : Int) := of_decide_eq_true (by first | (with_reducible assumption) | assumption)
      obtain ⟨ad153, e153, hx153_0⟩ := Kd.at_int HR0.out x7_1 p153 q153
      cases e153
      replace p153 := eq_true p153
      replace q153 := eq_true q153
      go_wp2
      go_roundg k1
      case measure => have := HK1.out; omega
      case rel => exact ⟨(wrap64 (x7_1 + 1)), (by first | rfl | (simp; done) | (simp [*]; done)), H', ⟨by have := HK1.out; omega⟩, by repeat (first | exact Drawn0.refl _ | apply Drawn0.step)⟩
/-! ### frac_floor: function 40 -/
def frac_floor.f (a0 : Int) (a1 : Int) : Option (Int × Int) := if a1 = 0 then (none) else (if (Int.tmod a0 a1) < 0 then (some (wrap64 ((wrap64 (Int.tdiv a0 a1)) - 1), wrap64 ((Int.tmod a0 a1) + a1))) else (some (wrap64 (Int.tdiv a0 a1), Int.tmod a0 a1)))
set_option maxHeartbeats 8000000 in
set_option maxRecDepth 100000 in
theorem frac_floor.calls (a0 : Int) (a1 : Int) (r1 : Int) (r2 : Int) (w : World) (h : frac_floor.f a0 a1 = some (r1, r2)) :
    Calls Tryd.prog 40 #[.int .i64 a0, .int .i64 a1] w fun e w' => e = .returned (.tuple #[.int .i64 r1, .int .i64 r2]) ∧ Drawn0 w w' := by
  have H : (if a1 = 0 then (none) else (if (Int.tmod a0 a1) < 0 then (some (wrap64 ((wrap64 (Int.tdiv a0 a1)) - 1), wrap64 ((Int.tmod a0 a1) + a1))) else (some (wrap64 (Int.tdiv a0 a1), Int.tmod a0 a1)))) = some (r1, r2) := h
  clear h
  by_cases c3 : a1 = 0
  · rw [if_pos c3] at H
    exact absurd H (by simp)
  rw [if_neg c3] at H
  have c3b0 : (a1 == 0) = false := beq_eq_false_iff_ne.mpr c3
  have c3b1 : (a1 != 0) = true := bne_iff_ne.mpr c3
  by_cases c4 : (Int.tmod a0 a1) < 0
  · rw [if_pos c4] at H
    have c4b0 := decide_eq_true c4
    clear c4
    simp only [Option.some.injEq, Prod.mk.injEq] at H
    obtain ⟨rfl, rfl⟩ := H
    go_enter Tryd.func40, Tryd.ntmps40
    go_wp2
    repeat (go_quiet (fail); try go_wp2)
    go_ret2
    exact ⟨by first | rfl | (simp; done) | (simp [*]; done), by repeat (first | exact Drawn0.refl _ | apply Drawn0.step)⟩
  rw [if_neg c4] at H
  have c4b0 := decide_eq_false c4
  clear c4
  simp only [Option.some.injEq, Prod.mk.injEq] at H
  obtain ⟨rfl, rfl⟩ := H
  go_enter Tryd.func40, Tryd.ntmps40
  go_wp2
  repeat (go_quiet (fail); try go_wp2)
  go_ret2
  exact ⟨by first | rfl | (simp; done) | (simp [*]; done), by repeat (first | exact Drawn0.refl _ | apply Drawn0.step)⟩

end Go.Proofs.YtodijkdmcjnpkaaDoor.K
