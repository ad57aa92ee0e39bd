import Derived.Test.YtjljhianehhlgaaDoorQ0
import Derived.Test.YtjljhianehhlgaaDoorQ2
import Derived.Test.YtjljhianehhlgaaDoorQU
namespace Go.Proofs.YtjljhianehhlgaaDoor.K
open Go.RowKit Go.Proofs.YtjljhianehhlgaaDoorW.PrintWords Go.Proofs.YtjljhianehhlgaaDoorW.PrintLast Go.Proofs.YtjljhianehhlgaaDoorW.PrintMore
attribute [local go_sem] max2_int min2_int max_two min_two max_three min_three max_four min_four   -- for this text's walks alone
set_option linter.unusedVariables false
set_option linter.unusedSimpArgs false

/-! ### strconv_FormatUint_74: by hand (KU) -/
def strconv_FormatUint_74.f (a0 : Int) (a1 : Int) : Option (ByteArray) := if a1 = 10 then (if 0 ≤ a0 then (if a0 ≤ 18446744073709551615 then some (digs a0) else none) else none) else none
theorem strconv_FormatUint_74.calls (a0 : Int) (a1 : Int) (r : ByteArray) (w : World) (h : strconv_FormatUint_74.f a0 a1 = some r) (htb : TB w) :
    Calls Tryd.prog 74 #[.int .u64 a0, .int .i64 a1] w fun e w' => e = .returned (.string r) ∧ Below w.heap.size w w' := by
  unfold strconv_FormatUint_74.f at h
  by_cases h1 : a1 = 10
  rotate_left
  · rw [if_neg h1] at h
    exact absurd h (by simp)

  by_cases h2 : 0 ≤ a0
  rotate_left
  · rw [if_pos h1, if_neg h2] at h
    exact absurd h (by simp)
  by_cases h3 : a0 ≤ 18446744073709551615
  rotate_left
  · rw [if_pos h1, if_pos h2, if_neg h3] at h
    exact absurd h (by simp)
  rw [if_pos h1, if_pos h2, if_pos h3] at h
  obtain rfl := Option.some.inj h
  subst h1
  exact formatUint_t a0 h2 h3 htb
/-! ### money_Text: function 41 -/
def money_Text.f (a0 : Int) : Option (ByteArray) := (money_Abs.f a0).bind fun t148 => ((strconv_FormatUint_74.f (IntKind.u64.wrap (Int.tdiv t148 100)) 10).bind fun t149 => (if t149.size + 1 ≤ 9223372036854775807 then (if (Int.tmod t148 100) < 10 then (if (t149 ++ (⟨#[46]⟩ : ByteArray)).size + 1 ≤ 9223372036854775807 then ((strconv_FormatUint_74.f (Int.tmod t148 100) 10).bind fun t150 => (if ((t149 ++ (⟨#[46]⟩ : ByteArray)) ++ (⟨#[48]⟩ : ByteArray)).size + t150.size ≤ 9223372036854775807 then (if a0 < 0 then (if 1 + (((t149 ++ (⟨#[46]⟩ : ByteArray)) ++ (⟨#[48]⟩ : ByteArray)) ++ t150).size ≤ 9223372036854775807 then (some ((⟨#[45]⟩ : ByteArray) ++ (((t149 ++ (⟨#[46]⟩ : ByteArray)) ++ (⟨#[48]⟩ : ByteArray)) ++ t150))) else (none)) else (some (((t149 ++ (⟨#[46]⟩ : ByteArray)) ++ (⟨#[48]⟩ : ByteArray)) ++ t150))) else (none))) else (none)) else ((strconv_FormatUint_74.f (Int.tmod t148 100) 10).bind fun t151 => (if (t149 ++ (⟨#[46]⟩ : ByteArray)).size + t151.size ≤ 9223372036854775807 then (if a0 < 0 then (if 1 + ((t149 ++ (⟨#[46]⟩ : ByteArray)) ++ t151).size ≤ 9223372036854775807 then (some ((⟨#[45]⟩ : ByteArray) ++ ((t149 ++ (⟨#[46]⟩ : ByteArray)) ++ t151))) else (none)) else (some ((t149 ++ (⟨#[46]⟩ : ByteArray)) ++ t151))) else (none)))) else (none)))
set_option maxHeartbeats 8000000 in
set_option maxRecDepth 100000 in
theorem money_Text.calls (a0 : Int) (r : ByteArray) (w : World) (h : money_Text.f a0 = some r) (htb : TB w) :
    Calls Tryd.prog 41 #[.int .i64 a0] w fun e w' => e = .returned (.string r) ∧ Below w.heap.size w w' := by
  have HB := AM (Below.refl w.heap.size w)
  have H : ((money_Abs.f a0).bind fun t148 => ((strconv_FormatUint_74.f (IntKind.u64.wrap (Int.tdiv t148 100)) 10).bind fun t149 => (if t149.size + 1 ≤ 9223372036854775807 then (if (Int.tmod t148 100) < 10 then (if (t149 ++ (⟨#[46]⟩ : ByteArray)).size + 1 ≤ 9223372036854775807 then ((strconv_FormatUint_74.f (Int.tmod t148 100) 10).bind fun t150 => (if ((t149 ++ (⟨#[46]⟩ : ByteArray)) ++ (⟨#[48]⟩ : ByteArray)).size + t150.size ≤ 9223372036854775807 then (if a0 < 0 then (if 1 + (((t149 ++ (⟨#[46]⟩ : ByteArray)) ++ (⟨#[48]⟩ : ByteArray)) ++ t150).size ≤ 9223372036854775807 then (some ((⟨#[45]⟩ : ByteArray) ++ (((t149 ++ (⟨#[46]⟩ : ByteArray)) ++ (⟨#[48]⟩ : ByteArray)) ++ t150))) else (none)) else (some (((t149 ++ (⟨#[46]⟩ : ByteArray)) ++ (⟨#[48]⟩ : ByteArray)) ++ t150))) else (none))) else (none)) else ((strconv_FormatUint_74.f (Int.tmod t148 100) 10).bind fun t151 => (if (t149 ++ (⟨#[46]⟩ : ByteArray)).size + t151.size ≤ 9223372036854775807 then (if a0 < 0 then (if 1 + ((t149 ++ (⟨#[46]⟩ : ByteArray)) ++ t151).size ≤ 9223372036854775807 then (some ((⟨#[45]⟩ : ByteArray) ++ ((t149 ++ (⟨#[46]⟩ : ByteArray)) ++ t151))) else (none)) else (some ((t149 ++ (⟨#[46]⟩ : ByteArray)) ++ t151))) else (none)))) else (none)))) = some r := h
  clear h
  replace H := Option.bind_eq_some_iff.mp H
  obtain ⟨t148, A20, H⟩ := H
  replace H : ((strconv_FormatUint_74.f (IntKind.u64.wrap (Int.tdiv t148 100)) 10).bind fun t149 => (if t149.size + 1 ≤ 9223372036854775807 then (if (Int.tmod t148 100) < 10 then (if (t149 ++ (⟨#[46]⟩ : ByteArray)).size + 1 ≤ 9223372036854775807 then ((strconv_FormatUint_74.f (Int.tmod t148 100) 10).bind fun t150 => (if ((t149 ++ (⟨#[46]⟩ : ByteArray)) ++ (⟨#[48]⟩ : ByteArray)).size + t150.size ≤ 9223372036854775807 then (if a0 < 0 then (if 1 + (((t149 ++ (⟨#[46]⟩ : ByteArray)) ++ (⟨#[48]⟩ : ByteArray)) ++ t150).size ≤ 9223372036854775807 then (some ((⟨#[45]⟩ : ByteArray) ++ (((t149 ++ (⟨#[46]⟩ : ByteArray)) ++ (⟨#[48]⟩ : ByteArray)) ++ t150))) else (none)) else (some (((t149 ++ (⟨#[46]⟩ : ByteArray)) ++ (⟨#[48]⟩ : ByteArray)) ++ t150))) else (none))) else (none)) else ((strconv_FormatUint_74.f (Int.tmod t148 100) 10).bind fun t151 => (if (t149 ++ (⟨#[46]⟩ : ByteArray)).size + t151.size ≤ 9223372036854775807 then (if a0 < 0 then (if 1 + ((t149 ++ (⟨#[46]⟩ : ByteArray)) ++ t151).size ≤ 9223372036854775807 then (some ((⟨#[45]⟩ : ByteArray) ++ ((t149 ++ (⟨#[46]⟩ : ByteArray)) ++ t151))) else (none)) else (some ((t149 ++ (⟨#[46]⟩ : ByteArray)) ++ t151))) else (none)))) else (none))) = some r := H
  have A2 := AM A20
  clear A20
  replace H := Option.bind_eq_some_iff.mp H
  obtain ⟨t149, A30, H⟩ := H
  replace H : (if t149.size + 1 ≤ 9223372036854775807 then (if (Int.tmod t148 100) < 10 then (if (t149 ++ (⟨#[46]⟩ : ByteArray)).size + 1 ≤ 9223372036854775807 then ((strconv_FormatUint_74.f (Int.tmod t148 100) 10).bind fun t150 => (if ((t149 ++ (⟨#[46]⟩ : ByteArray)) ++ (⟨#[48]⟩ : ByteArray)).size + t150.size ≤ 9223372036854775807 then (if a0 < 0 then (if 1 + (((t149 ++ (⟨#[46]⟩ : ByteArray)) ++ (⟨#[48]⟩ : ByteArray)) ++ t150).size ≤ 9223372036854775807 then (some ((⟨#[45]⟩ : ByteArray) ++ (((t149 ++ (⟨#[46]⟩ : ByteArray)) ++ (⟨#[48]⟩ : ByteArray)) ++ t150))) else (none)) else (some (((t149 ++ (⟨#[46]⟩ : ByteArray)) ++ (⟨#[48]⟩ : ByteArray)) ++ t150))) else (none))) else (none)) else ((strconv_FormatUint_74.f (Int.tmod t148 100) 10).bind fun t151 => (if (t149 ++ (⟨#[46]⟩ : ByteArray)).size + t151.size ≤ 9223372036854775807 then (if a0 < 0 then (if 1 + ((t149 ++ (⟨#[46]⟩ : ByteArray)) ++ t151).size ≤ 9223372036854775807 then (some ((⟨#[45]⟩ : ByteArray) ++ ((t149 ++ (⟨#[46]⟩ : ByteArray)) ++ t151))) else (none)) else (some ((t149 ++ (⟨#[46]⟩ : ByteArray)) ++ t151))) else (none)))) else (none)) = some r := H
  have A3 := AM A30
  clear A30
  by_cases c4 : t149.size + 1 ≤ 9223372036854775807
  rotate_left
  · rw [if_neg c4] at H
    exact absurd H (by simp)


  rw [if_pos c4] at H
  have c4b0 := eq_true c4
  have c4b1 : decide (t149.size + 1 ≤ 9223372036854775807) = true := decide_eq_true c4
  try have c4b2 : (9223372036854775807 < t149.size + 1) = False := eq_false (Nat.not_lt.2 c4)
  by_cases c5 : (Int.tmod t148 100) < 10
  rotate_left
  · rw [if_neg c5] at H
    have c5b0 := decide_eq_false c5
    clear c5
    replace H := Option.bind_eq_some_iff.mp H
    obtain ⟨t151, A150, H⟩ := H
    replace H : (if (t149 ++ (⟨#[46]⟩ : ByteArray)).size + t151.size ≤ 9223372036854775807 then (if a0 < 0 then (if 1 + ((t149 ++ (⟨#[46]⟩ : ByteArray)) ++ t151).size ≤ 9223372036854775807 then (some ((⟨#[45]⟩ : ByteArray) ++ ((t149 ++ (⟨#[46]⟩ : ByteArray)) ++ t151))) else (none)) else (some ((t149 ++ (⟨#[46]⟩ : ByteArray)) ++ t151))) else (none)) = some r := H
    have A15 := AM A150
    clear A150
    by_cases c16 : (t149 ++ (⟨#[46]⟩ : ByteArray)).size + t151.size ≤ 9223372036854775807
    rotate_left
    · rw [if_neg c16] at H
      exact absurd H (by simp)
    rw [if_pos c16] at H
    have c16b0 := eq_true c16
    have c16b1 : decide ((t149 ++ (⟨#[46]⟩ : ByteArray)).size + t151.size ≤ 9223372036854775807) = true := decide_eq_true c16
    try have c16b2 : (9223372036854775807 < (t149 ++ (⟨#[46]⟩ : ByteArray)).size + t151.size) = False := eq_false (Nat.not_lt.2 c16)
    try have c16b3 : (9223372036854775807 < t149.size + 1 + t151.size) = False := eq_false (Nat.not_lt.2 (by have h := c16; simp only [ByteArray.size_append] at h; exact h))
    by_cases c17 : a0 < 0
    rotate_left
    · rw [if_neg c17] at H
      have c17b0 := decide_eq_false c17
      clear c17
      obtain rfl := Option.some.inj H
      go_enter Tryd.func41, Tryd.ntmps41
      go_wp2_with (first | ((with_reducible refine gC (f := 73) rfl ?_); refine gL (some 6) rfl rfl Tryd.func73 (by kernel_rfl) rfl #[.int .i64 a0] rfl (by (try simp only [List.map_toArray, List.map_cons, List.map_nil]); first | done | rfl | (simp only [List.length_drop, List.length_take]; rfl)) ?_; (with_reducible refine (money_Abs.calls a0 t148 _ A2.out).mono ?_); rintro e w' ⟨rfl, ⟨nd, rfl⟩⟩; refine ⟨_, rfl, ?_⟩) | ((with_reducible refine gC (f := 74) rfl ?_); refine gL (some 9) rfl rfl Tryd.func74 (by kernel_rfl) rfl #[.int .u64 (IntKind.u64.wrap (Int.tdiv t148 100)), .int .i64 10] rfl (by (try simp only [List.map_toArray, List.map_cons, List.map_nil]); first | done | rfl | (simp only [List.length_drop, List.length_take]; rfl)) ?_; (with_reducible refine (strconv_FormatUint_74.calls (IntKind.u64.wrap (Int.tdiv t148 100)) 10 t149 _ A3.out (tQ htb)).mono ?_); rintro e w21 ⟨rfl, hb⟩; refine ⟨_, rfl, ?_⟩; have n0_ := AM (bT bQ hb); clear HB; have HB := n0_; clear n0_; (try clear hb); (try clear hb2); (try clear hk); (try clear hi)) | ((with_reducible refine gC (f := 74) rfl ?_); refine gL (some 19) rfl rfl Tryd.func74 (by kernel_rfl) rfl #[.int .u64 (Int.tmod t148 100), .int .i64 10] rfl (by (try simp only [List.map_toArray, List.map_cons, List.map_nil]); first | done | rfl | (simp only [List.length_drop, List.length_take]; rfl)) ?_; (with_reducible refine (strconv_FormatUint_74.calls (Int.tmod t148 100) 10 t151 _ A15.out (tQ htb)).mono ?_); rintro e w22 ⟨rfl, hb⟩; refine ⟨_, rfl, ?_⟩; have n0_ := AM (bT bQ hb); clear HB; have HB := n0_; clear n0_; (try clear hb); (try clear hb2); (try clear hk); (try clear hi)))
      go_ret
      exact ⟨by first | rfl | (simp [errW_none, errW_some] <;> rfl) | (simp [*, errW_none, errW_some] <;> rfl), by repeat (first | (with_reducible first | exact HB.out | apply bA | apply bD | apply b1) | exact HB.out)⟩
    rw [if_pos c17] at H
    have c17b0 := decide_eq_true c17
    clear c17
    by_cases c18 : 1 + ((t149 ++ (⟨#[46]⟩ : ByteArray)) ++ t151).size ≤ 9223372036854775807
    rotate_left
    · rw [if_neg c18] at H
      exact absurd H (by simp)
    rw [if_pos c18] at H
    have c18b0 := eq_true c18
    have c18b1 : decide (1 + ((t149 ++ (⟨#[46]⟩ : ByteArray)) ++ t151).size ≤ 9223372036854775807) = true := decide_eq_true c18
    try have c18b2 : (9223372036854775807 < 1 + ((t149 ++ (⟨#[46]⟩ : ByteArray)) ++ t151).size) = False := eq_false (Nat.not_lt.2 c18)
    try have c18b3 : (9223372036854775807 < 1 + (t149.size + 1 + t151.size)) = False := eq_false (Nat.not_lt.2 (by have h := c18; simp only [ByteArray.size_append] at h; exact h))
    obtain rfl := Option.some.inj H
    go_enter Tryd.func41, Tryd.ntmps41
    go_wp2_with (first | ((with_reducible refine gC (f := 73) rfl ?_); refine gL (some 6) rfl rfl Tryd.func73 (by kernel_rfl) rfl #[.int .i64 a0] rfl (by (try simp only [List.map_toArray, List.map_cons, List.map_nil]); first | done | rfl | (simp only [List.length_drop, List.length_take]; rfl)) ?_; (with_reducible refine (money_Abs.calls a0 t148 _ A2.out).mono ?_); rintro e w' ⟨rfl, ⟨nd, rfl⟩⟩; refine ⟨_, rfl, ?_⟩) | ((with_reducible refine gC (f := 74) rfl ?_); refine gL (some 9) rfl rfl Tryd.func74 (by kernel_rfl) rfl #[.int .u64 (IntKind.u64.wrap (Int.tdiv t148 100)), .int .i64 10] rfl (by (try simp only [List.map_toArray, List.map_cons, List.map_nil]); first | done | rfl | (simp only [List.length_drop, List.length_take]; rfl)) ?_; (with_reducible refine (strconv_FormatUint_74.calls (IntKind.u64.wrap (Int.tdiv t148 100)) 10 t149 _ A3.out (tQ htb)).mono ?_); rintro e w19 ⟨rfl, hb⟩; refine ⟨_, rfl, ?_⟩; have n0_ := AM (bT bQ hb); clear HB; have HB := n0_; clear n0_; (try clear hb); (try clear hb2); (try clear hk); (try clear hi)) | ((with_reducible refine gC (f := 74) rfl ?_); refine gL (some 19) rfl rfl Tryd.func74 (by kernel_rfl) rfl #[.int .u64 (Int.tmod t148 100), .int .i64 10] rfl (by (try simp only [List.map_toArray, List.map_cons, List.map_nil]); first | done | rfl | (simp only [List.length_drop, List.length_take]; rfl)) ?_; (with_reducible refine (strconv_FormatUint_74.calls (Int.tmod t148 100) 10 t151 _ A15.out (tQ htb)).mono ?_); rintro e w20 ⟨rfl, hb⟩; refine ⟨_, rfl, ?_⟩; have n0_ := AM (bT bQ hb); clear HB; have HB := n0_; clear n0_; (try clear hb); (try clear hb2); (try clear hk); (try clear hi)))
    go_ret
    exact ⟨by first | rfl | (simp [errW_none, errW_some] <;> rfl) | (simp [*, errW_none, errW_some] <;> rfl), by repeat (first | (with_reducible first | exact HB.out | apply bA | apply bD | apply b1) | exact HB.out)⟩
  rw [if_pos c5] at H
  have c5b0 := decide_eq_true c5
  clear c5
  by_cases c6 : (t149 ++ (⟨#[46]⟩ : ByteArray)).size + 1 ≤ 9223372036854775807
  rotate_left
  · rw [if_neg c6] at H
    exact absurd H (by simp)
  rw [if_pos c6] at H
  have c6b0 := eq_true c6
  have c6b1 : decide ((t149 ++ (⟨#[46]⟩ : ByteArray)).size + 1 ≤ 9223372036854775807) = true := decide_eq_true c6
  try have c6b2 : (9223372036854775807 < (t149 ++ (⟨#[46]⟩ : ByteArray)).size + 1) = False := eq_false (Nat.not_lt.2 c6)
  try have c6b3 : (9223372036854775807 < t149.size + 1 + 1) = False := eq_false (Nat.not_lt.2 (by have h := c6; simp only [ByteArray.size_append] at h; exact h))
  replace H := Option.bind_eq_some_iff.mp H
  obtain ⟨t150, A70, H⟩ := H
  replace H : (if ((t149 ++ (⟨#[46]⟩ : ByteArray)) ++ (⟨#[48]⟩ : ByteArray)).size + t150.size ≤ 9223372036854775807 then (if a0 < 0 then (if 1 + (((t149 ++ (⟨#[46]⟩ : ByteArray)) ++ (⟨#[48]⟩ : ByteArray)) ++ t150).size ≤ 9223372036854775807 then (some ((⟨#[45]⟩ : ByteArray) ++ (((t149 ++ (⟨#[46]⟩ : ByteArray)) ++ (⟨#[48]⟩ : ByteArray)) ++ t150))) else (none)) else (some (((t149 ++ (⟨#[46]⟩ : ByteArray)) ++ (⟨#[48]⟩ : ByteArray)) ++ t150))) else (none)) = some r := H
  have A7 := AM A70
  clear A70
  by_cases c8 : ((t149 ++ (⟨#[46]⟩ : ByteArray)) ++ (⟨#[48]⟩ : ByteArray)).size + t150.size ≤ 9223372036854775807
  rotate_left
  · rw [if_neg c8] at H
    exact absurd H (by simp)
  rw [if_pos c8] at H
  have c8b0 := eq_true c8
  have c8b1 : decide (((t149 ++ (⟨#[46]⟩ : ByteArray)) ++ (⟨#[48]⟩ : ByteArray)).size + t150.size ≤ 9223372036854775807) = true := decide_eq_true c8
  try have c8b2 : (9223372036854775807 < ((t149 ++ (⟨#[46]⟩ : ByteArray)) ++ (⟨#[48]⟩ : ByteArray)).size + t150.size) = False := eq_false (Nat.not_lt.2 c8)
  try have c8b3 : (9223372036854775807 < t149.size + 1 + 1 + t150.size) = False := eq_false (Nat.not_lt.2 (by have h := c8; simp only [ByteArray.size_append] at h; exact h))
  by_cases c9 : a0 < 0
  rotate_left
  · rw [if_neg c9] at H
    have c9b0 := decide_eq_false c9
    clear c9
    obtain rfl := Option.some.inj H
    go_enter Tryd.func41, Tryd.ntmps41
    go_wp2_with (first | ((with_reducible refine gC (f := 73) rfl ?_); refine gL (some 6) rfl rfl Tryd.func73 (by kernel_rfl) rfl #[.int .i64 a0] rfl (by (try simp only [List.map_toArray, List.map_cons, List.map_nil]); first | done | rfl | (simp only [List.length_drop, List.length_take]; rfl)) ?_; (with_reducible refine (money_Abs.calls a0 t148 _ A2.out).mono ?_); rintro e w' ⟨rfl, ⟨nd, rfl⟩⟩; refine ⟨_, rfl, ?_⟩) | ((with_reducible refine gC (f := 74) rfl ?_); refine gL (some 9) rfl rfl Tryd.func74 (by kernel_rfl) rfl #[.int .u64 (IntKind.u64.wrap (Int.tdiv t148 100)), .int .i64 10] rfl (by (try simp only [List.map_toArray, List.map_cons, List.map_nil]); first | done | rfl | (simp only [List.length_drop, List.length_take]; rfl)) ?_; (with_reducible refine (strconv_FormatUint_74.calls (IntKind.u64.wrap (Int.tdiv t148 100)) 10 t149 _ A3.out (tQ htb)).mono ?_); rintro e w13 ⟨rfl, hb⟩; refine ⟨_, rfl, ?_⟩; have n0_ := AM (bT bQ hb); clear HB; have HB := n0_; clear n0_; (try clear hb); (try clear hb2); (try clear hk); (try clear hi)) | ((with_reducible refine gC (f := 74) rfl ?_); refine gL (some 19) rfl rfl Tryd.func74 (by kernel_rfl) rfl #[.int .u64 (Int.tmod t148 100), .int .i64 10] rfl (by (try simp only [List.map_toArray, List.map_cons, List.map_nil]); first | done | rfl | (simp only [List.length_drop, List.length_take]; rfl)) ?_; (with_reducible refine (strconv_FormatUint_74.calls (Int.tmod t148 100) 10 t150 _ A7.out (tQ htb)).mono ?_); rintro e w14 ⟨rfl, hb⟩; refine ⟨_, rfl, ?_⟩; have n0_ := AM (bT bQ hb); clear HB; have HB := n0_; clear n0_; (try clear hb); (try clear hb2); (try clear hk); (try clear hi)))
    go_ret
    exact ⟨by first | rfl | (simp [errW_none, errW_some] <;> rfl) | (simp [*, errW_none, errW_some] <;> rfl), by repeat (first | (with_reducible first | exact HB.out | apply bA | apply bD | apply b1) | exact HB.out)⟩
  rw [if_pos c9] at H
  have c9b0 := decide_eq_true c9
  clear c9
  by_cases c10 : 1 + (((t149 ++ (⟨#[46]⟩ : ByteArray)) ++ (⟨#[48]⟩ : ByteArray)) ++ t150).size ≤ 9223372036854775807
  rotate_left
  · rw [if_neg c10] at H
    exact absurd H (by simp)
  rw [if_pos c10] at H
  have c10b0 := eq_true c10
  have c10b1 : decide (1 + (((t149 ++ (⟨#[46]⟩ : ByteArray)) ++ (⟨#[48]⟩ : ByteArray)) ++ t150).size ≤ 9223372036854775807) = true := decide_eq_true c10
  try have c10b2 : (9223372036854775807 < 1 + (((t149 ++ (⟨#[46]⟩ : ByteArray)) ++ (⟨#[48]⟩ : ByteArray)) ++ t150).size) = False := eq_false (Nat.not_lt.2 c10)
  try have c10b3 : (9223372036854775807 < 1 + (t149.size + 1 + 1 + t150.size)) = False := eq_false (Nat.not_lt.2 (by have h := c10; simp only [ByteArray.size_append] at h; exact h))
  obtain rfl := Option.some.inj H
  go_enter Tryd.func41, Tryd.ntmps41
  go_wp2_with (first | ((with_reducible refine gC (f := 73) rfl ?_); refine gL (some 6) rfl rfl Tryd.func73 (by kernel_rfl) rfl #[.int .i64 a0] rfl (by (try simp only [List.map_toArray, List.map_cons, List.map_nil]); first | done | rfl | (simp only [List.length_drop, List.length_take]; rfl)) ?_; (with_reducible refine (money_Abs.calls a0 t148 _ A2.out).mono ?_); rintro e w' ⟨rfl, ⟨nd, rfl⟩⟩; refine ⟨_, rfl, ?_⟩) | ((with_reducible refine gC (f := 74) rfl ?_); refine gL (some 9) rfl rfl Tryd.func74 (by kernel_rfl) rfl #[.int .u64 (IntKind.u64.wrap (Int.tdiv t148 100)), .int .i64 10] rfl (by (try simp only [List.map_toArray, List.map_cons, List.map_nil]); first | done | rfl | (simp only [List.length_drop, List.length_take]; rfl)) ?_; (with_reducible refine (strconv_FormatUint_74.calls (IntKind.u64.wrap (Int.tdiv t148 100)) 10 t149 _ A3.out (tQ htb)).mono ?_); rintro e w11 ⟨rfl, hb⟩; refine ⟨_, rfl, ?_⟩; have n0_ := AM (bT bQ hb); clear HB; have HB := n0_; clear n0_; (try clear hb); (try clear hb2); (try clear hk); (try clear hi)) | ((with_reducible refine gC (f := 74) rfl ?_); refine gL (some 19) rfl rfl Tryd.func74 (by kernel_rfl) rfl #[.int .u64 (Int.tmod t148 100), .int .i64 10] rfl (by (try simp only [List.map_toArray, List.map_cons, List.map_nil]); first | done | rfl | (simp only [List.length_drop, List.length_take]; rfl)) ?_; (with_reducible refine (strconv_FormatUint_74.calls (Int.tmod t148 100) 10 t150 _ A7.out (tQ htb)).mono ?_); rintro e w12 ⟨rfl, hb⟩; refine ⟨_, rfl, ?_⟩; have n0_ := AM (bT bQ hb); clear HB; have HB := n0_; clear n0_; (try clear hb); (try clear hb2); (try clear hk); (try clear hi)))
  go_ret
  exact ⟨by first | rfl | (simp [errW_none, errW_some] <;> rfl) | (simp [*, errW_none, errW_some] <;> rfl), by repeat (first | (with_reducible first | exact HB.out | apply bA | apply bD | apply b1) | exact HB.out)⟩
end Go.Proofs.YtjljhianehhlgaaDoor.K
