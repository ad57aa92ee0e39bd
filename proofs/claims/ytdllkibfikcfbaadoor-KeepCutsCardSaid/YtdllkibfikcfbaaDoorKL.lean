import Derived.Test.YtdllkibfikcfbaaDoorKx0
import Derived.Test.YtdllkibfikcfbaaDoorKx8
import Derived.Test.YtdllkibfikcfbaaDoorKPatch
import Derived.Test.YtdllkibfikcfbaaDoorShelf
import Derived.Lib.AppendIntMem
namespace Go.Proofs.YtdllkibfikcfbaaDoor.K
open Go.RowKit Go.Proofs.YtdllkibfikcfbaaDoorW.PrintWords Go.Proofs.YtdllkibfikcfbaaDoorW.PrintLast Go.Proofs.YtdllkibfikcfbaaDoorW.PrintMore
attribute [local go_sem] max2_int min2_int max_two min_two max_three min_three max_four min_four   -- for this text's walks alone
set_option linter.unusedVariables false
set_option linter.unusedSimpArgs false

theorem info9 : (Tryd.prog.info? 9).map (fun i => (i.zero, i.size, i.bytes)) = some (some (.string ⟨#[]⟩), 1, 16) := by kernel_rfl
/-- The library's table of powers of ten reads as it was laid. -/
def TB (w : World) : Prop := Lib.TabIs Tryd.prog w "internal/strconv.uint64pow10" .u64 Lib.pow10Tab
theorem tQ {w W : World} (h : TB w) (hb : Below w.heap.size w W := by repeat (first | (with_reducible first | exact oX (by assumption) | apply bA | apply bD | apply b1 | refine bS ?_ (oX (by assumption))) | exact oX (by assumption))) : TB W := Lib.tabBelow_of_tabIs h W hb
theorem grown_below (w : World) (k : Nat) (os : Array Obj) : Below w.heap.size w (Go.Sort.grow (w.drewN k) os) :=
  ⟨rfl, rfl, rfl, by show w.heap.size ≤ (w.heap ++ os).size; rw [Array.size_append]; omega, fun _ hj => Go.Sort.heap_grow_old (w.drewN k) os hj⟩
/-! #### decimals -/
def digF : Nat → Nat → List UInt8
  | 0, u => [UInt8.ofNat (48 + u)]
  | f + 1, u => if u < 10 then [UInt8.ofNat (48 + u)] else digF f (u / 10) ++ [UInt8.ofNat (48 + u % 10)]
def digs (n : Int) : ByteArray := ⟨(if n < 0 then 45 :: digF 20 n.natAbs else digF 20 n.toNat).toArray⟩
theorem digF_eq : ∀ f u : Nat, u < 10 ^ (f + 1) → digF f u = Lib.decDigits u := by
  intro f
  induction f with
  | zero => intro u h; rw [Lib.decDigits_one (by simpa using h)]; rfl
  | succ f ih =>
    intro u h
    simp only [digF]
    rw [Lib.decDigits]
    split
    · rfl
    · rw [ih (u / 10) (by rw [Nat.pow_succ] at h; omega)]
theorem digs_eq (n : Int) (h0 : -9223372036854775808 ≤ n) (h1 : n ≤ 9223372036854775807) : (⟨(Lib.itoa n).toArray⟩ : ByteArray) = digs n := by
  unfold digs Lib.itoa
  split
  · rw [digF_eq 20 _ (by have : (10:Nat) ^ 21 = 1000000000000000000000 := by decide
                         omega)]
  · rw [digF_eq 20 _ (by have : (10:Nat) ^ 21 = 1000000000000000000000 := by decide
                         omega)]
/-! ### strconv_Itoa_19: the shelf's contract -/
def strconv_Itoa_19.f (a0 : Int) : Option (ByteArray) := if -9223372036854775808 ≤ a0 then (if a0 ≤ 9223372036854775807 then some (digs a0) else none) else none
theorem strconv_Itoa_19.calls (a0 : Int) (r : ByteArray) (w : World) (htb : TB w) (h : strconv_Itoa_19.f a0 = some r) :
    Calls Tryd.prog 19 #[.int .i64 a0] w fun e w' => e = .returned (.string r) ∧ Below w.heap.size w w' := by
  unfold strconv_Itoa_19.f at h
  by_cases h2 : -9223372036854775808 ≤ a0
  rotate_left
  · rw [if_neg h2] at h
    exact absurd h (by simp)

  by_cases h3 : a0 ≤ 9223372036854775807
  rotate_left
  · rw [if_pos h2, if_neg h3] at h
    exact absurd h (by simp)
  rw [if_pos h2, if_pos h3] at h
  obtain rfl := Option.some.inj h
  refine (Tryd.strconv_Itoa a0 h2 h3 w htb).mono fun e w' hh => ?_
  obtain ⟨he, k, os, hw⟩ := hh
  exact ⟨by rw [he, digs_eq a0 h2 h3], by rw [hw]; exact grown_below w k os⟩
/-! ### keep_Lines: function 8 -/
mutual
def keep_Lines.j0 : Nat → ByteArray → Int → List (List (S41)) → List (S43) → List (S58) → Int → Int → Int → Int → List Int → Int → Option (List ByteArray)
  | 0, _, _, _, _, _, _, _, _, _, _, _ => none
  | k + 1, x5, x6, x317000, x317001, x317002, x317003, x317004, x325000, x325001, x325002, x325003 => if x5.size + 1 ≤ 9223372036854775807 then ((strconv_Itoa_19.f x6).bind fun t329 => (if (x5 ++ (⟨#[32]⟩ : ByteArray)).size + t329.size ≤ 9223372036854775807 then (keep_Lines.l0 k (([(x5 ++ (⟨#[32]⟩ : ByteArray)) ++ t329] : List ByteArray)) x325002 (x325002.length : Int) 0 x317000 x317001 x317002 x317003 x317004 x325000 x325001 x325002 x325003) else (none))) else (none)
def keep_Lines.l0 : Nat → List ByteArray → List Int → Int → Int → List (List (S41)) → List (S43) → List (S58) → Int → Int → Int → Int → List Int → Int → Option (List ByteArray)
  | 0, _, _, _, _, _, _, _, _, _, _, _, _, _ => none
  | k + 1, x7, x50, x51, x52, x317000, x317001, x317002, x317003, x317004, x325000, x325001, x325002, x325003 => if x52 < x51 then (if 0 ≤ x52 then (if x52 < (x50.length : Int) then (if x52 < (x317001.length : Int) then (if ((rd_T43 x317001 x52).f0).size + 6 ≤ 9223372036854775807 then ((strconv_Itoa_19.f (rd x50 x52)).bind fun t336 => (if (((rd_T43 x317001 x52).f0) ++ (⟨#[32, 98, 97, 110, 100, 32]⟩ : ByteArray)).size + t336.size ≤ 9223372036854775807 then (if ((((rd_T43 x317001 x52).f0) ++ (⟨#[32, 98, 97, 110, 100, 32]⟩ : ByteArray)) ++ t336).size + 1 ≤ 9223372036854775807 then (if 0 ≤ (rd x50 x52) then (if (rd x50 x52) < (((rd_T43 x317001 x52).f2).length : Int) then ((strconv_Itoa_19.f ((rd_T41 ((rd_T43 x317001 x52).f2) (rd x50 x52)).f1)).bind fun t338 => (if (((((rd_T43 x317001 x52).f0) ++ (⟨#[32, 98, 97, 110, 100, 32]⟩ : ByteArray)) ++ t336) ++ (⟨#[32]⟩ : ByteArray)).size + t338.size ≤ 9223372036854775807 then (if x7.length < 8796093022208 then (keep_Lines.l0 k (x7 ++ [(((((rd_T43 x317001 x52).f0) ++ (⟨#[32, 98, 97, 110, 100, 32]⟩ : ByteArray)) ++ t336) ++ (⟨#[32]⟩ : ByteArray)) ++ t338]) x50 x51 (wrap64 (x52 + 1)) x317000 x317001 x317002 x317003 x317004 x325000 x325001 x325002 x325003) else (none)) else (none))) else (none)) else (none)) else (none)) else (none))) else (none)) else (none)) else (none)) else (none)) else ((strconv_Itoa_19.f x325003).bind fun t342 => (if 5 + t342.size ≤ 9223372036854775807 then (if x7.length < 8796093022208 then (some (x7 ++ [(⟨#[107, 101, 101, 112, 32]⟩ : ByteArray) ++ t342])) else (none)) else (none)))
end
def keep_Lines.f (k : Nat) (l0_0 : List (List (S41))) (l0_1 : List (S43)) (l0_2 : List (S58)) (a0_3 : Int) (a0_4 : Int) : Option (List ByteArray) := (keep_Worst.f k l0_0 l0_1 l0_2 a0_3 a0_4).bind fun bt317 => (if bt317.2.2.2.2 = 0 then (if bt317.1 ≥ 0 then ((strconv_Itoa_19.f bt317.1).bind fun t325 => (if 7 + t325.size ≤ 9223372036854775807 then (if ((⟨#[115, 99, 104, 101, 109, 101, 32]⟩ : ByteArray) ++ t325).size + 6 ≤ 9223372036854775807 then ((strconv_Itoa_19.f bt317.2.1).bind fun t326 => (if (((⟨#[115, 99, 104, 101, 109, 101, 32]⟩ : ByteArray) ++ t325) ++ (⟨#[32, 98, 97, 110, 100, 32]⟩ : ByteArray)).size + t326.size ≤ 9223372036854775807 then (if 0 ≤ bt317.1 then (if bt317.1 < (l0_0.length : Int) then (if 0 ≤ bt317.2.1 then (if bt317.2.1 < ((rd_L2 l0_0 bt317.1).length : Int) then (keep_Lines.j0 k ((((⟨#[115, 99, 104, 101, 109, 101, 32]⟩ : ByteArray) ++ t325) ++ (⟨#[32, 98, 97, 110, 100, 32]⟩ : ByteArray)) ++ t326) ((rd_T41 (rd_L2 l0_0 bt317.1) bt317.2.1).f1) l0_0 l0_1 l0_2 a0_3 a0_4 bt317.1 bt317.2.1 bt317.2.2.1 bt317.2.2.2.1) else (none)) else (none)) else (none)) else (none)) else (none))) else (none)) else (none))) else (keep_Lines.j0 k (⟨#[108, 105, 109, 105, 116]⟩ : ByteArray) a0_3 l0_0 l0_1 l0_2 a0_3 a0_4 bt317.1 bt317.2.1 bt317.2.2.1 bt317.2.2.2.1)) else (some ([] : List ByteArray)))
def keep_Lines.T6 : Bool × List (List Nat × List Nat) := (true, [([], []), ([0], [0]), ([1], [1]), ([2], [2]), ([3], [3]), ([], []), ([5], [5]), ([6, 2], [6]), ([4, 7], [4, 7]), ([], []), ([9], [9]), ([], []), ([11], [11]), ([10, 12], [10, 12]), ([13], [13]), ([], []), ([15], [15]), ([14, 16], [14, 16]), ([17], [17]), ([18], [18]), ([8, 7, 0, 1, 2, 3, 4, 5, 6, 7, 8], [8]), ([19, 20, 0, 1, 2, 3, 4, 5, 6, 7, 8, 9, 10, 11, 12, 13, 14, 15, 16, 17, 18, 19, 20], [19])])
def keep_Lines.B6 : List Nat := [0, 1, 3, 7, 15, 0, 32, 103, 255, 0, 512, 0, 2048, 7680, 15872, 0, 32768, 130560, 261632, 523776, 511, 2097151]
theorem keep_Lines.tab6 : rtab .any (opsOf Tryd.f8 6) = keep_Lines.T6 := by kernel_rfl
theorem keep_Lines.bits6 : waitsOk keep_Lines.T6.2 keep_Lines.B6 = true := by kernel_rfl
def keep_Lines.T12 : Bool × List (List Nat × List Nat) := (true, [([], []), ([], []), ([1], [1]), ([2], [2]), ([], []), ([4], [4]), ([3, 5], [3, 5]), ([6], [6]), ([], []), ([8], [8]), ([], []), ([9, 10], [9, 10]), ([11], [11]), ([12], [12]), ([13, 5], [13]), ([7, 14], [7, 14]), ([15], [15]), ([0, 16, 14], [0, 16]), ([17, 17, 0, 1, 2, 3, 4, 5, 6, 7, 8, 9, 10, 11, 12, 13, 14, 15, 16, 17], [0, 17])])
def keep_Lines.B12 : List Nat := [0, 0, 2, 6, 0, 16, 62, 126, 0, 256, 0, 1792, 3840, 7936, 16176, 32766, 65534, 131071, 262143]
theorem keep_Lines.tab12 : rtab .any (opsOf Tryd.f8 12) = keep_Lines.T12 := by kernel_rfl
theorem keep_Lines.bits12 : waitsOk keep_Lines.T12.2 keep_Lines.B12 = true := by kernel_rfl
set_option maxHeartbeats 8000000 in
set_option maxRecDepth 100000 in
theorem keep_Lines.calls (k : Nat) (A0_0 : Option Addr) (c0_0 : Nat) (l0_0 : List (List (S41))) (A0_1 : Option Addr) (c0_1 : Nat) (l0_1 : List (S43)) (A0_2 : Option Addr) (c0_2 : Nat) (l0_2 : List (S58)) (a0_3 : Int) (a0_4 : Int) (r : List ByteArray) (w : World) (hr0_0 : Kd.C (Kd.slice 52 k41) w A0_0 l0_0.length l0_0) (hc0_0 : l0_0.length ≤ c0_0) (hr0_1 : Kd.C k43 w A0_1 l0_1.length l0_1) (hc0_1 : l0_1.length ≤ c0_1) (hr0_2 : Kd.C k58 w A0_2 l0_2.length l0_2) (hc0_2 : l0_2.length ≤ c0_2) (htb : TB w) (h : keep_Lines.f k l0_0 l0_1 l0_2 a0_3 a0_4 = some r) :
    Calls Tryd.prog 8 #[.agg #[.slice A0_0 l0_0.length c0_0, .slice A0_1 l0_1.length c0_1, .slice A0_2 l0_2.length c0_2, .int .i64 a0_3, .int .i64 a0_4]] w fun e w' => ∃ v0_ : Value, e = .returned (v0_) ∧ Kd.R Kd.string 9 w' w.heap.size (fun _ => True) v0_ r ∧ Below w.heap.size w w' := by
  have hu26 := Tryd.underlying26
  have hu39 := Tryd.underlying39
  have hu49 := Tryd.underlying49
  have HR0_0 := AM hr0_0
  have HC0_0 := AM hc0_0
  clear hr0_0 hc0_0
  have HR0_1 := AM hr0_1
  have HC0_1 := AM hc0_1
  clear hr0_1 hc0_1
  have HR0_2 := AM hr0_2
  have HC0_2 := AM hc0_2
  clear hr0_2 hc0_2
  have HB := AM (Below.refl w.heap.size w)
  have H : ((keep_Worst.f k l0_0 l0_1 l0_2 a0_3 a0_4).bind fun bt317 => (if bt317.2.2.2.2 = 0 then (if bt317.1 ≥ 0 then ((strconv_Itoa_19.f bt317.1).bind fun t325 => (if 7 + t325.size ≤ 9223372036854775807 then (if ((⟨#[115, 99, 104, 101, 109, 101, 32]⟩ : ByteArray) ++ t325).size + 6 ≤ 9223372036854775807 then ((strconv_Itoa_19.f bt317.2.1).bind fun t326 => (if (((⟨#[115, 99, 104, 101, 109, 101, 32]⟩ : ByteArray) ++ t325) ++ (⟨#[32, 98, 97, 110, 100, 32]⟩ : ByteArray)).size + t326.size ≤ 9223372036854775807 then (if 0 ≤ bt317.1 then (if bt317.1 < (l0_0.length : Int) then (if 0 ≤ bt317.2.1 then (if bt317.2.1 < ((rd_L2 l0_0 bt317.1).length : Int) then (keep_Lines.j0 k ((((⟨#[115, 99, 104, 101, 109, 101, 32]⟩ : ByteArray) ++ t325) ++ (⟨#[32, 98, 97, 110, 100, 32]⟩ : ByteArray)) ++ t326) ((rd_T41 (rd_L2 l0_0 bt317.1) bt317.2.1).f1) l0_0 l0_1 l0_2 a0_3 a0_4 bt317.1 bt317.2.1 bt317.2.2.1 bt317.2.2.2.1) else (none)) else (none)) else (none)) else (none)) else (none))) else (none)) else (none))) else (keep_Lines.j0 k (⟨#[108, 105, 109, 105, 116]⟩ : ByteArray) a0_3 l0_0 l0_1 l0_2 a0_3 a0_4 bt317.1 bt317.2.1 bt317.2.2.1 bt317.2.2.2.1)) else (some ([] : List ByteArray)))) = some r := h
  clear h
  replace H := Option.bind_eq_some_iff.mp H
  obtain ⟨⟨t317, t318, t319, t322, t323⟩, A20, H⟩ := H
  replace H : (if t323 = 0 then (if t317 ≥ 0 then ((strconv_Itoa_19.f t317).bind fun t325 => (if 7 + t325.size ≤ 9223372036854775807 then (if ((⟨#[115, 99, 104, 101, 109, 101, 32]⟩ : ByteArray) ++ t325).size + 6 ≤ 9223372036854775807 then ((strconv_Itoa_19.f t318).bind fun t326 => (if (((⟨#[115, 99, 104, 101, 109, 101, 32]⟩ : ByteArray) ++ t325) ++ (⟨#[32, 98, 97, 110, 100, 32]⟩ : ByteArray)).size + t326.size ≤ 9223372036854775807 then (if 0 ≤ t317 then (if t317 < (l0_0.length : Int) then (if 0 ≤ t318 then (if t318 < ((rd_L2 l0_0 t317).length : Int) then (keep_Lines.j0 k ((((⟨#[115, 99, 104, 101, 109, 101, 32]⟩ : ByteArray) ++ t325) ++ (⟨#[32, 98, 97, 110, 100, 32]⟩ : ByteArray)) ++ t326) ((rd_T41 (rd_L2 l0_0 t317) t318).f1) l0_0 l0_1 l0_2 a0_3 a0_4 t317 t318 t319 t322) else (none)) else (none)) else (none)) else (none)) else (none))) else (none)) else (none))) else (keep_Lines.j0 k (⟨#[108, 105, 109, 105, 116]⟩ : ByteArray) a0_3 l0_0 l0_1 l0_2 a0_3 a0_4 t317 t318 t319 t322)) else (some ([] : List ByteArray))) = some r := H
  have A2 := AM A20
  clear A20
  by_cases c3 : t323 = 0
  rotate_left
  · rw [if_neg c3] at H
    have c3b0 : (t323 == 0) = false := beq_eq_false_iff_ne.mpr c3
    have c3b1 : (t323 != 0) = true := bne_iff_ne.mpr c3
    obtain rfl := Option.some.inj H
    go_enter Tryd.func8, Tryd.ntmps8
    go_wp2_with (first | ((with_reducible refine gD (N := 1) rfl ?_); refine bE ?hg (N := 1) ?hd (cs := #[.slice A0_0 l0_0.length c0_0, .slice A0_1 l0_1.length c0_1, .slice A0_2 l0_2.length c0_2, .int .i64 a0_3, .int .i64 a0_4]) (t := 26) ?hr ?_; (case hd => rfl); (case hg => rfl); (case hr => first | (go_simp; done) | (go_simp; rfl)); intro gb316 hg w67 hbox hb; have n0_ := AM (bT bQ hb); have n1_ := AM (hbox); have n2_ := AM ((by rw [hg]; exact (bZ bQ) : w.heap.size ≤ gb316)); have n3_ := AM ((by rw [hg]; exact (bZ bQ) : w.heap.size ≤ gb316)); clear HB; have HB := n0_; have BK316 := n1_; have GW316 := n2_; have GE316 := n3_; clear n0_ n1_ n2_ n3_; clear hb hbox hg; obtain ⟨_, _, _, _, _, _, _, _, _, _⟩ := bX5 BK316.out) | ((with_reducible refine gC (f := 10) rfl ?_); refine gL (some 13) rfl rfl Tryd.func10 (by kernel_rfl) rfl #[.agg #[.slice A0_0 l0_0.length c0_0, .slice A0_1 l0_1.length c0_1, .slice A0_2 l0_2.length c0_2, .int .i64 a0_3, .int .i64 a0_4]] rfl (by (try simp only [List.map_toArray, List.map_cons, List.map_nil]); first | done | rfl | (simp only [List.length_drop, List.length_take]; rfl)) ?_; (with_reducible refine (keep_Worst.calls k _ _ l0_0 _ _ l0_1 _ _ l0_2 a0_3 a0_4 t317 t318 t319 t322 t323 _ ?side1 ?side2 ?side3 ?side4 ?side5 ?side6 A2.out).mono ?_); (case side1 => exact cQ HR0_0 HB); (case side2 => exact HC0_0.out); (case side3 => exact cQ HR0_1 HB); (case side4 => exact HC0_1.out); (case side5 => exact cQ HR0_2 HB); (case side6 => exact HC0_2.out); rintro e w69 ⟨v320, rfl, ho0, hb⟩; refine ⟨_, rfl, ?_⟩; have n0_ := AM (Kd.R_lower ho0 (bZ bQ)); have n1_ := AM (kB (g := gb316) (o := .cells #[.slice A0_0 l0_0.length c0_0, .slice A0_1 l0_1.length c0_1, .slice A0_2 l0_2.length c0_2, .int .i64 a0_3, .int .i64 a0_4] 26 (0, 0)) (kW BK316) hb); have n2_ := AM (bT bQ hb); clear BK316; clear HB; have HO321 := n0_; have BK316 := n1_; have HB := n2_; clear n0_ n1_ n2_; (try clear hb); (try clear hb2); (try clear hk); (try clear hi); (try clear ho0)) | ((with_reducible refine gD (N := 3) rfl ?_); refine bE ?hg (N := 3) ?hd (cs := #[.int .i64 0, .int .i64 0, .slice none 0 0, .int .i64 0]) (t := 39) ?hr ?_; (case hd => rfl); (case hg => rfl); (case hr => first | (go_simp; done) | (go_simp; rfl)); intro gb324 hg w70 hbox hb; have n0_ := AM (Kd.R_below (by (with_reducible repeat (first | apply rA | apply rD | apply r1x)); exact HO321.out) hb); have n1_ := AM (kB (g := gb316) (o := .cells #[.slice A0_0 l0_0.length c0_0, .slice A0_1 l0_1.length c0_1, .slice A0_2 l0_2.length c0_2, .int .i64 a0_3, .int .i64 a0_4] 26 (0, 0)) (kW BK316) hb); have n2_ := AM (bT bQ hb); have n3_ := AM (hbox); have n4_ := AM ((by rw [hg]; exact (bZ bQ) : w.heap.size ≤ gb324)); have n5_ := AM ((by rw [hg]; exact (bZ bQ) : w.heap.size ≤ gb324)); have n6_ := AM ((by rw [hg]; exact Nat.ne_of_lt (blk_lt (g := gb316) (o := .cells #[.slice A0_0 l0_0.length c0_0, .slice A0_1 l0_1.length c0_1, .slice A0_2 l0_2.length c0_2, .int .i64 a0_3, .int .i64 a0_4] 26 (0, 0)) (kW BK316)) : gb316 ≠ gb324)); have n7_ := AM ((by rw [hg]; exact Nat.ne_of_gt (blk_lt (g := gb316) (o := .cells #[.slice A0_0 l0_0.length c0_0, .slice A0_1 l0_1.length c0_1, .slice A0_2 l0_2.length c0_2, .int .i64 a0_3, .int .i64 a0_4] 26 (0, 0)) (kW BK316)) : gb324 ≠ gb316)); clear HO321; clear BK316; clear HB; have HO321 := n0_; have BK316 := n1_; have HB := n2_; have BK324 := n3_; have GW324 := n4_; have GE324 := n5_; have NB316_324 := n6_; have NB324_316 := n7_; clear n0_ n1_ n2_ n3_ n4_ n5_ n6_ n7_; clear hb hbox hg; have hnb71 := NB324_316.out; have hnc71 := NB316_324.out; obtain ⟨_, _, _, _, _, _, _, _⟩ := bX4 BK324.out; obtain ⟨Ao73, co73, eo73⟩ := Kd.R_slice HO321.out; subst eo73))
    go_ret
    exact ⟨_, by first | rfl | (simp [errW_none, errW_some] <;> rfl) | (simp [*, errW_none, errW_some] <;> rfl), by first | exact Kd.R_nil _ _ _ _ _ | exact Kd.N_nil _ _ _ _ _ | exact Kd.V_nil _ _ _ _ _ | exact Kd.Q_nil _ _ _ _ _ | exact Kd.S_nil _ _ _ _ _, by repeat (first | (with_reducible first | exact HB.out | apply bA | apply bD | apply b1 | refine bS ?_ GE316.out | refine bS ?_ GE324.out) | exact HB.out)⟩

  rw [if_pos c3] at H
  have c3b0 : (t323 == 0) = true := beq_iff_eq.mpr c3
  have c3b1 : (t323 != 0) = false := bne_eq_false_iff_eq.mpr c3
  clear c3
  have HC4 := AM H
  clear H
  go_enter Tryd.func8, Tryd.ntmps8
  try go_wp2_with (first | ((with_reducible refine gD (N := 1) rfl ?_); refine bE ?hg (N := 1) ?hd (cs := #[.slice A0_0 l0_0.length c0_0, .slice A0_1 l0_1.length c0_1, .slice A0_2 l0_2.length c0_2, .int .i64 a0_3, .int .i64 a0_4]) (t := 26) ?hr ?_; (case hd => rfl); (case hg => rfl); (case hr => first | (go_simp; done) | (go_simp; rfl)); intro gb316 hg w5 hbox hb; have n0_ := AM (bT bQ hb); have n1_ := AM (hbox); have n2_ := AM ((by rw [hg]; exact (bZ bQ) : w.heap.size ≤ gb316)); have n3_ := AM ((by rw [hg]; exact (bZ bQ) : w.heap.size ≤ gb316)); clear HB; have HB := n0_; have BK316 := n1_; have GW316 := n2_; have GE316 := n3_; clear n0_ n1_ n2_ n3_; clear hb hbox hg; obtain ⟨_, _, _, _, _, _, _, _, _, _⟩ := bX5 BK316.out) | ((with_reducible refine gC (f := 10) rfl ?_); refine gL (some 13) rfl rfl Tryd.func10 (by kernel_rfl) rfl #[.agg #[.slice A0_0 l0_0.length c0_0, .slice A0_1 l0_1.length c0_1, .slice A0_2 l0_2.length c0_2, .int .i64 a0_3, .int .i64 a0_4]] rfl (by (try simp only [List.map_toArray, List.map_cons, List.map_nil]); first | done | rfl | (simp only [List.length_drop, List.length_take]; rfl)) ?_; (with_reducible refine (keep_Worst.calls k _ _ l0_0 _ _ l0_1 _ _ l0_2 a0_3 a0_4 t317 t318 t319 t322 t323 _ ?side1 ?side2 ?side3 ?side4 ?side5 ?side6 A2.out).mono ?_); (case side1 => exact cQ HR0_0 HB); (case side2 => exact HC0_0.out); (case side3 => exact cQ HR0_1 HB); (case side4 => exact HC0_1.out); (case side5 => exact cQ HR0_2 HB); (case side6 => exact HC0_2.out); rintro e w7 ⟨v320, rfl, ho0, hb⟩; refine ⟨_, rfl, ?_⟩; have n0_ := AM (Kd.R_lower ho0 (bZ bQ)); have n1_ := AM (kB (g := gb316) (o := .cells #[.slice A0_0 l0_0.length c0_0, .slice A0_1 l0_1.length c0_1, .slice A0_2 l0_2.length c0_2, .int .i64 a0_3, .int .i64 a0_4] 26 (0, 0)) (kW BK316) hb); have n2_ := AM (bT bQ hb); clear BK316; clear HB; have HO321 := n0_; have BK316 := n1_; have HB := n2_; clear n0_ n1_ n2_; (try clear hb); (try clear hb2); (try clear hk); (try clear hi); (try clear ho0)) | ((with_reducible refine gD (N := 3) rfl ?_); refine bE ?hg (N := 3) ?hd (cs := #[.int .i64 0, .int .i64 0, .slice none 0 0, .int .i64 0]) (t := 39) ?hr ?_; (case hd => rfl); (case hg => rfl); (case hr => first | (go_simp; done) | (go_simp; rfl)); intro gb324 hg w8 hbox hb; have n0_ := AM (Kd.R_below (by (with_reducible repeat (first | apply rA | apply rD | apply r1x)); exact HO321.out) hb); have n1_ := AM (kB (g := gb316) (o := .cells #[.slice A0_0 l0_0.length c0_0, .slice A0_1 l0_1.length c0_1, .slice A0_2 l0_2.length c0_2, .int .i64 a0_3, .int .i64 a0_4] 26 (0, 0)) (kW BK316) hb); have n2_ := AM (bT bQ hb); have n3_ := AM (hbox); have n4_ := AM ((by rw [hg]; exact (bZ bQ) : w.heap.size ≤ gb324)); have n5_ := AM ((by rw [hg]; exact (bZ bQ) : w.heap.size ≤ gb324)); have n6_ := AM ((by rw [hg]; exact Nat.ne_of_lt (blk_lt (g := gb316) (o := .cells #[.slice A0_0 l0_0.length c0_0, .slice A0_1 l0_1.length c0_1, .slice A0_2 l0_2.length c0_2, .int .i64 a0_3, .int .i64 a0_4] 26 (0, 0)) (kW BK316)) : gb316 ≠ gb324)); have n7_ := AM ((by rw [hg]; exact Nat.ne_of_gt (blk_lt (g := gb316) (o := .cells #[.slice A0_0 l0_0.length c0_0, .slice A0_1 l0_1.length c0_1, .slice A0_2 l0_2.length c0_2, .int .i64 a0_3, .int .i64 a0_4] 26 (0, 0)) (kW BK316)) : gb324 ≠ gb316)); clear HO321; clear BK316; clear HB; have HO321 := n0_; have BK316 := n1_; have HB := n2_; have BK324 := n3_; have GW324 := n4_; have GE324 := n5_; have NB316_324 := n6_; have NB324_316 := n7_; clear n0_ n1_ n2_ n3_ n4_ n5_ n6_ n7_; clear hb hbox hg; have hnb9 := NB324_316.out; have hnc9 := NB316_324.out; obtain ⟨_, _, _, _, _, _, _, _⟩ := bX4 BK324.out; obtain ⟨Ao11, co11, eo11⟩ := Kd.R_slice HO321.out; subst eo11))
  have n0_ : Aside0 (Kd.R (Kd.int .i64) 3 ((((w8.setCell ⟨gb324, 0, none⟩ (.int .i64 t317)).setCell ⟨gb324, 1, none⟩ (.int .i64 t318)).setCell ⟨gb324, 2, none⟩ (.slice Ao11 t319.length co11)).setCell ⟨gb324, 3, none⟩ (.int .i64 t322)) w.heap.size (fun _ => True) (.slice Ao11 t319.length co11) t319) := ⟨by (with_reducible repeat (first | apply rA | apply rD | apply r1x)); exact Kd.R_mono (Kd.R_far (p := ⟨gb324, 3, none⟩) (Kd.R_far (p := ⟨gb324, 2, none⟩) (Kd.R_far (p := ⟨gb324, 1, none⟩) (Kd.R_far (p := ⟨gb324, 0, none⟩) (Kd.R_types HO321.out BK324.out (by decide)) (fun _ hk => hk.2) (.int .i64 t317)) (fun _ hk => hk.2) (.int .i64 t318)) (fun _ hk => hk.2) (.slice Ao11 t319.length co11)) (fun _ hk => hk.2) (.int .i64 t322)) (fun _ hk => trivial)⟩
  have n1_ : Aside0 (((((w8.setCell ⟨gb324, 0, none⟩ (.int .i64 t317)).setCell ⟨gb324, 1, none⟩ (.int .i64 t318)).setCell ⟨gb324, 2, none⟩ (.slice Ao11 t319.length co11)).setCell ⟨gb324, 3, none⟩ (.int .i64 t322)).heap[gb316]? = some (.cells #[.slice A0_0 l0_0.length c0_0, .slice A0_1 l0_1.length c0_1, .slice A0_2 l0_2.length c0_2, .int .i64 a0_3, .int .i64 a0_4] 26 (0, 0))) := ⟨by (with_reducible repeat (first | refine kD ?_ _ | refine k1_ ?_ | refine kA ?_ _)); refine kF ?_ NB316_324.out _; (with_reducible repeat (first | refine kD ?_ _ | refine k1_ ?_ | refine kA ?_ _)); refine kF ?_ NB316_324.out _; (with_reducible repeat (first | refine kD ?_ _ | refine k1_ ?_ | refine kA ?_ _)); refine kF ?_ NB316_324.out _; (with_reducible repeat (first | refine kD ?_ _ | refine k1_ ?_ | refine kA ?_ _)); refine kF ?_ NB316_324.out _; (with_reducible repeat (first | refine kD ?_ _ | refine k1_ ?_ | refine kA ?_ _)); exact BK316.out⟩
  have n2_ : Aside0 (((((w8.setCell ⟨gb324, 0, none⟩ (.int .i64 t317)).setCell ⟨gb324, 1, none⟩ (.int .i64 t318)).setCell ⟨gb324, 2, none⟩ (.slice Ao11 t319.length co11)).setCell ⟨gb324, 3, none⟩ (.int .i64 t322)).heap[gb324]? = some (.cells #[.int .i64 t317, .int .i64 t318, .slice Ao11 t319.length co11, .int .i64 t322] 39 (0, 0))) := ⟨by (with_reducible repeat (first | refine kD ?_ _ | refine k1_ ?_ | refine kA ?_ _)); refine kP (cs := #[.int .i64 t317, .int .i64 t318, .slice Ao11 t319.length co11, .int .i64 0]) ?_ 3 _ rfl; (with_reducible repeat (first | refine kD ?_ _ | refine k1_ ?_ | refine kA ?_ _)); refine kP (cs := #[.int .i64 t317, .int .i64 t318, .slice none 0 0, .int .i64 0]) ?_ 2 _ rfl; (with_reducible repeat (first | refine kD ?_ _ | refine k1_ ?_ | refine kA ?_ _)); refine kP (cs := #[.int .i64 t317, .int .i64 0, .slice none 0 0, .int .i64 0]) ?_ 1 _ rfl; (with_reducible repeat (first | refine kD ?_ _ | refine k1_ ?_ | refine kA ?_ _)); refine kP (cs := #[.int .i64 0, .int .i64 0, .slice none 0 0, .int .i64 0]) ?_ 0 _ rfl; (with_reducible repeat (first | refine kD ?_ _ | refine k1_ ?_ | refine kA ?_ _)); exact BK324.out⟩
  have n3_ : Aside0 (Below w.heap.size w ((((w8.setCell ⟨gb324, 0, none⟩ (.int .i64 t317)).setCell ⟨gb324, 1, none⟩ (.int .i64 t318)).setCell ⟨gb324, 2, none⟩ (.slice Ao11 t319.length co11)).setCell ⟨gb324, 3, none⟩ (.int .i64 t322))) := ⟨by repeat (first | (with_reducible first | exact HB.out | apply bA | apply bD | apply b1 | refine bS ?_ GE316.out | refine bS ?_ GE324.out) | exact HB.out)⟩
  (try clear HO321)
  (try clear BK316)
  (try clear BK324)
  (try clear HB)
  generalize ((((w8.setCell ⟨gb324, 0, none⟩ (.int .i64 t317)).setCell ⟨gb324, 1, none⟩ (.int .i64 t318)).setCell ⟨gb324, 2, none⟩ (.slice Ao11 t319.length co11)).setCell ⟨gb324, 3, none⟩ (.int .i64 t322)) = w12 at n0_ n1_ n2_ n3_ ⊢
  have HO321 := n0_
  have BK316 := n1_
  have BK324 := n2_
  have HB := n3_
  clear n0_ n1_ n2_ n3_
  have n0_ := AM (r1x HO321.out)
  have n1_ := AM (k1_ BK316.out)
  have n2_ := AM (k1_ BK324.out)
  have n3_ := AM (b1 HB.out)
  clear HO321
  clear BK316
  clear BK324
  clear HB
  have HO321 := n0_
  have BK316 := n1_
  have BK324 := n2_
  have HB := n3_
  clear n0_ n1_ n2_ n3_
  refine start_ (n := 4) (S := fun w' => w'.cell? ⟨gb316, 0, none⟩ = some (.slice A0_0 l0_0.length c0_0) ∧ w'.cell? ⟨gb316, 1, none⟩ = some (.slice A0_1 l0_1.length c0_1) ∧ w'.cell? ⟨gb316, 2, none⟩ = some (.slice A0_2 l0_2.length c0_2) ∧ w'.cell? ⟨gb316, 3, none⟩ = some (.int .i64 a0_3) ∧ w'.cell? ⟨gb316, 4, none⟩ = some (.int .i64 a0_4)) (ds := []) #[false, false, false, false] (by kernel_rfl) rfl rfl ⟨(bC BK316.out 0).trans rfl, (bC BK316.out 1).trans rfl, (bC BK316.out 2).trans rfl, (bC BK316.out 3).trans rfl, (bC BK316.out 4).trans rfl⟩ (fun hHeld => ?_)
  generalize w12.drew = w13 at HO321 BK316 BK324 HB hHeld ⊢
  refine pure_ (i := 0) (N := some 18) (v := ?_) (a' := ?_) #[true, false, false, false] rfl rfl (by kernel_rfl) (fun _ _ _ h => h) (Or.inl ⟨by rfl, ?_⟩) ?_ ?_
  rotate_left
  · intro w'
    go_simp
    with_reducible rfl
  rotate_left
  · simp only [Act.put, List.setIfInBounds_toArray, List.set_cons_zero, List.set_cons_succ, i64_w, i32_w]
    rfl
  refine pure_ (i := 2) (N := some 5) (v := ?_) (a' := ?_) #[true, false, true, false] rfl rfl (by kernel_rfl) (fun _ _ _ h => h) (Or.inl ⟨by rfl, ?_⟩) ?_ ?_
  rotate_left
  · intro w'
    go_simp
    with_reducible rfl
  rotate_left
  · simp only [Act.put, List.setIfInBounds_toArray, List.set_cons_zero, List.set_cons_succ, i64_w, i32_w]
    rfl
  refine take_ (i := 1) (N := some 19) (v := ?_) (a' := ?_) #[true, true, true, false] rfl rfl (by kernel_rfl) (fun _ _ _ h => h) (Or.inl ⟨by rfl, ?_⟩) hHeld ?_ ?_
  rotate_left
  · rintro w' ⟨s0, s1, s2, s3, s4⟩
    go_simp
    with_reducible rfl
  rotate_left
  · simp only [Act.put, List.setIfInBounds_toArray, List.set_cons_zero, List.set_cons_succ, i64_w, i32_w]
    rfl
  refine pure_ (i := 3) (N := some 6) (v := ?_) (a' := ?_) #[true, true, true, true] rfl rfl (by kernel_rfl) (fun _ _ _ h => h) (Or.inl ⟨by rfl, ?_⟩) ?_ ?_
  rotate_left
  · intro w'
    go_simp
    with_reducible rfl
  rotate_left
  · simp only [Act.put, List.setIfInBounds_toArray, List.set_cons_zero, List.set_cons_succ, i64_w, i32_w]
    rfl
  refine done_ (by kernel_rfl) ?_
  obtain ⟨_, _, _, _, _, _, _, _⟩ := bX4 BK324.out
  go_upto_if 22 with (fail)
  go_cut [5, 6] (fun v5 v6 wc => ∃ (kq : Nat) (x5_3 : ByteArray) (x6_3 : Int), v5 = .string x5_3 ∧ v6 = .int .i64 x6_3 ∧ Aside0 (keep_Lines.j0 kq x5_3 x6_3 l0_0 l0_1 l0_2 a0_3 a0_4 t317 t318 t319 t322 = some r) ∧ Aside0 (kq ≤ k) ∧ Aside0 (Kd.R (Kd.int .i64) 3 wc w.heap.size (fun _ => True) (.slice Ao11 t319.length co11) t319) ∧ Aside0 (wc.heap[gb316]? = some (.cells #[(.slice A0_0 l0_0.length c0_0), (.slice A0_1 l0_1.length c0_1), (.slice A0_2 l0_2.length c0_2), .int .i64 a0_3, .int .i64 a0_4] 26 (0, 0))) ∧ Aside0 (wc.heap[gb324]? = some (.cells #[.int .i64 t317, .int .i64 t318, (.slice Ao11 t319.length co11), .int .i64 t322] 39 (0, 0))) ∧ Aside0 (Below w.heap.size w wc))
  case first =>
    have H := HC4.out
    clear HC4
    by_cases c15 : t317 ≥ 0
    rotate_left
    · rw [if_neg c15] at H
      have c15b0 : decide (0 ≤ t317) = false := decide_eq_false c15
      clear c15
      (first | rw [c15b0] | (simp only [i64_w, i32_w]; rw [c15b0]) | skip)
      have H' := AM H
      clear H
      go_wp2
      go_meet
      case rel => exact ⟨_, ((⟨#[108, 105, 109, 105, 116]⟩ : ByteArray)), (a0_3), (by first | rfl | (simp; done) | (simp [*]; done)), (by first | rfl | (simp; done) | (simp [*]; done)), H', ⟨by first | omega | exact Nat.le_refl _⟩, ⟨by (with_reducible repeat (first | apply rA | apply rD | apply r1x)); exact HO321.out⟩, ⟨by (with_reducible repeat (first | refine kD ?_ _ | refine k1_ ?_ | refine kA ?_ _)); exact BK316.out⟩, ⟨by (with_reducible repeat (first | refine kD ?_ _ | refine k1_ ?_ | refine kA ?_ _)); exact BK324.out⟩, ⟨by repeat (first | (with_reducible first | exact HB.out | apply bA | apply bD | apply b1 | refine bS ?_ GE316.out | refine bS ?_ GE324.out) | exact HB.out)⟩⟩
    rw [if_pos c15] at H
    have c15b0 : decide (0 ≤ t317) = true := decide_eq_true c15
    clear c15
    (first | rw [c15b0] | (simp only [i64_w, i32_w]; rw [c15b0]) | skip)
    replace H := Option.bind_eq_some_iff.mp H
    obtain ⟨t325, A160, H⟩ := H
    replace H : (if 7 + t325.size ≤ 9223372036854775807 then (if ((⟨#[115, 99, 104, 101, 109, 101, 32]⟩ : ByteArray) ++ t325).size + 6 ≤ 9223372036854775807 then ((strconv_Itoa_19.f t318).bind fun t326 => (if (((⟨#[115, 99, 104, 101, 109, 101, 32]⟩ : ByteArray) ++ t325) ++ (⟨#[32, 98, 97, 110, 100, 32]⟩ : ByteArray)).size + t326.size ≤ 9223372036854775807 then (if 0 ≤ t317 then (if t317 < (l0_0.length : Int) then (if 0 ≤ t318 then (if t318 < ((rd_L2 l0_0 t317).length : Int) then (keep_Lines.j0 k ((((⟨#[115, 99, 104, 101, 109, 101, 32]⟩ : ByteArray) ++ t325) ++ (⟨#[32, 98, 97, 110, 100, 32]⟩ : ByteArray)) ++ t326) ((rd_T41 (rd_L2 l0_0 t317) t318).f1) l0_0 l0_1 l0_2 a0_3 a0_4 t317 t318 t319 t322) else (none)) else (none)) else (none)) else (none)) else (none))) else (none)) else (none)) = some r := H
    have A16 := AM A160
    clear A160
    by_cases c17 : 7 + t325.size ≤ 9223372036854775807
    rotate_left
    · rw [if_neg c17] at H
      exact absurd H (by simp)
    rw [if_pos c17] at H
    have c17b0 := eq_true c17
    have c17b1 : decide (7 + t325.size ≤ 9223372036854775807) = true := decide_eq_true c17
    try have c17b2 : (9223372036854775807 < 7 + t325.size) = False := eq_false (Nat.not_lt.2 c17)
    by_cases c18 : ((⟨#[115, 99, 104, 101, 109, 101, 32]⟩ : ByteArray) ++ t325).size + 6 ≤ 9223372036854775807
    rotate_left
    · rw [if_neg c18] at H
      exact absurd H (by simp)
    rw [if_pos c18] at H
    have c18b0 := eq_true c18
    have c18b1 : decide (((⟨#[115, 99, 104, 101, 109, 101, 32]⟩ : ByteArray) ++ t325).size + 6 ≤ 9223372036854775807) = true := decide_eq_true c18
    try have c18b2 : (9223372036854775807 < ((⟨#[115, 99, 104, 101, 109, 101, 32]⟩ : ByteArray) ++ t325).size + 6) = False := eq_false (Nat.not_lt.2 c18)
    try have c18b3 : (9223372036854775807 < 7 + t325.size + 6) = False := eq_false (Nat.not_lt.2 (by have h := c18; simp only [ByteArray.size_append] at h; exact h))
    replace H := Option.bind_eq_some_iff.mp H
    obtain ⟨t326, A190, H⟩ := H
    replace H : (if (((⟨#[115, 99, 104, 101, 109, 101, 32]⟩ : ByteArray) ++ t325) ++ (⟨#[32, 98, 97, 110, 100, 32]⟩ : ByteArray)).size + t326.size ≤ 9223372036854775807 then (if 0 ≤ t317 then (if t317 < (l0_0.length : Int) then (if 0 ≤ t318 then (if t318 < ((rd_L2 l0_0 t317).length : Int) then (keep_Lines.j0 k ((((⟨#[115, 99, 104, 101, 109, 101, 32]⟩ : ByteArray) ++ t325) ++ (⟨#[32, 98, 97, 110, 100, 32]⟩ : ByteArray)) ++ t326) ((rd_T41 (rd_L2 l0_0 t317) t318).f1) l0_0 l0_1 l0_2 a0_3 a0_4 t317 t318 t319 t322) else (none)) else (none)) else (none)) else (none)) else (none)) = some r := H
    have A19 := AM A190
    clear A190
    by_cases c20 : (((⟨#[115, 99, 104, 101, 109, 101, 32]⟩ : ByteArray) ++ t325) ++ (⟨#[32, 98, 97, 110, 100, 32]⟩ : ByteArray)).size + t326.size ≤ 9223372036854775807
    rotate_left
    · rw [if_neg c20] at H
      exact absurd H (by simp)
    rw [if_pos c20] at H
    have c20b0 := eq_true c20
    have c20b1 : decide ((((⟨#[115, 99, 104, 101, 109, 101, 32]⟩ : ByteArray) ++ t325) ++ (⟨#[32, 98, 97, 110, 100, 32]⟩ : ByteArray)).size + t326.size ≤ 9223372036854775807) = true := decide_eq_true c20
    try have c20b2 : (9223372036854775807 < (((⟨#[115, 99, 104, 101, 109, 101, 32]⟩ : ByteArray) ++ t325) ++ (⟨#[32, 98, 97, 110, 100, 32]⟩ : ByteArray)).size + t326.size) = False := eq_false (Nat.not_lt.2 c20)
    try have c20b3 : (9223372036854775807 < 7 + t325.size + 6 + t326.size) = False := eq_false (Nat.not_lt.2 (by have h := c20; simp only [ByteArray.size_append] at h; exact h))
    by_cases c21 : 0 ≤ t317
    rotate_left
    · rw [if_neg c21] at H
      exact absurd H (by simp)
    rw [if_pos c21] at H
    have c21b0 := decide_eq_true c21
    clear c21
    by_cases c22 : t317 < (l0_0.length : Int)
    rotate_left
    · rw [if_neg c22] at H
      exact absurd H (by simp)
    rw [if_pos c22] at H
    have c22b0 := decide_eq_true c22
    clear c22
    by_cases c23 : 0 ≤ t318
    rotate_left
    · rw [if_neg c23] at H
      exact absurd H (by simp)
    rw [if_pos c23] at H
    have c23b0 := decide_eq_true c23
    clear c23
    by_cases c24 : t318 < ((rd_L2 l0_0 t317).length : Int)
    rotate_left
    · rw [if_neg c24] at H
      exact absurd H (by simp)
    rw [if_pos c24] at H
    have c24b0 := decide_eq_true c24
    clear c24
    have H' := AM H
    clear H
    try go_wp2
    have n0_ := AM (r1x HO321.out)
    have n1_ := AM (k1_ BK316.out)
    have n2_ := AM (k1_ BK324.out)
    have n3_ := AM (b1 HB.out)
    clear HO321
    clear BK316
    clear BK324
    clear HB
    have HO321 := n0_
    have BK316 := n1_
    have BK324 := n2_
    have HB := n3_
    clear n0_ n1_ n2_ n3_
    have p327 : 0 ≤ (t317 : Int) := of_decide_eq_true (by first | (with_reducible assumption) | assumption)
    have q327 : t317 < (l0_0.length : Int) := of_decide_eq_true (by first | (with_reducible assumption) | assumption)
    obtain ⟨ad327, A327_0, c327_0, e327, hx327_0, hl327_0, hi327_0⟩ := at_L2 HR0_0.out t317 p327 q327
    have hw327_0 := hx327_0
    cases e327
    replace hx327_0 := (HB.out.cell (bL w _ hx327_0)).trans hx327_0
    have HR327_0 := AM hi327_0
    have HC327_0 := AM hl327_0
    clear hi327_0 hl327_0
    replace p327 := eq_true p327
    replace q327 := eq_true q327
    have p328 : 0 ≤ (t318 : Int) := of_decide_eq_true (by first | (with_reducible assumption) | assumption)
    have q328 : t318 < ((rd_L2 l0_0 t317).length : Int) := of_decide_eq_true (by first | (with_reducible assumption) | assumption)
    obtain ⟨ad328, e328, hx328_0, hx328_1, hx328_2⟩ := at_T41 HR327_0.out t318 p328 q328
    have hw328_2 := hx328_2
    have hw328_1 := hx328_1
    have hw328_0 := hx328_0
    cases e328
    replace hx328_0 := (HB.out.cell (bL w _ hx328_0)).trans hx328_0
    replace hx328_1 := (HB.out.cell (bL w _ hx328_1)).trans hx328_1
    replace hx328_2 := (HB.out.cell (bL w _ hx328_2)).trans hx328_2
    replace p328 := eq_true p328
    replace q328 := eq_true q328
    refine start_ (n := 22) (S := fun w' => w'.cell? ⟨gb324, 0, none⟩ = some (.int .i64 t317) ∧ w'.cell? ⟨gb324, 1, none⟩ = some (.int .i64 t318) ∧ w'.cell? ⟨gb324, 2, none⟩ = some (.slice Ao11 t319.length co11) ∧ w'.cell? ⟨gb324, 3, none⟩ = some (.int .i64 t322) ∧ w'.cell? ⟨gb316, 0, none⟩ = some (.slice (some ad327) l0_0.length c0_0) ∧ w'.cell? ⟨gb316, 1, none⟩ = some (.slice A0_1 l0_1.length c0_1) ∧ w'.cell? ⟨gb316, 2, none⟩ = some (.slice A0_2 l0_2.length c0_2) ∧ w'.cell? ⟨gb316, 3, none⟩ = some (.int .i64 a0_3) ∧ w'.cell? ⟨gb316, 4, none⟩ = some (.int .i64 a0_4) ∧ w'.cell? (ad327.add (t317).toNat) = some (.slice (some ad328) (rd_L2 l0_0 t317).length c327_0) ∧ w'.cell? (ad328.add ((t318).toNat * 3)) = some (.int .i64 ((rd_T41 (rd_L2 l0_0 t317) t318).f0)) ∧ w'.cell? ⟨(ad328.add ((t318).toNat * 3)).block, (ad328.add ((t318).toNat * 3)).off + 1, none⟩ = some (.int .i64 ((rd_T41 (rd_L2 l0_0 t317) t318).f1)) ∧ w'.cell? ⟨(ad328.add ((t318).toNat * 3)).block, (ad328.add ((t318).toNat * 3)).off + 2, none⟩ = some (.int .i64 ((rd_T41 (rd_L2 l0_0 t317) t318).f2))) (ds := []) #[false, false, false, false, false, false, false, false, false, false, false, false, false, false, false, false, false, false, false, false, false, false] (by kernel_rfl) rfl rfl ⟨(bC BK324.out 0).trans rfl, (bC BK324.out 1).trans rfl, (bC BK324.out 2).trans rfl, (bC BK324.out 3).trans rfl, (bC BK316.out 0).trans rfl, (bC BK316.out 1).trans rfl, (bC BK316.out 2).trans rfl, (bC BK316.out 3).trans rfl, (bC BK316.out 4).trans rfl, ((HB.out.cell (bL w _ hw327_0)).trans hw327_0), ((HB.out.cell (bL w _ hw328_0)).trans hw328_0), ((HB.out.cell (bL w _ hw328_1)).trans hw328_1), ((HB.out.cell (bL w _ hw328_2)).trans hw328_2)⟩ (fun hHeld => ?_); refine with_tabW keep_Lines.tab6 keep_Lines.bits6 (fun HT_ HW_ => ?_)
    generalize w13.drew = w25 at HO321 BK316 BK324 HB HR327_0 hx327_0 hx328_0 hx328_1 hx328_2 hHeld ⊢
    refine pure_ (i := 0) (N := some 23) (v := ?_) (a' := ?_) #[true, false, false, false, false, false, false, false, false, false, false, false, false, false, false, false, false, false, false, false, false, false] rfl rfl (any_of HT_.out (by kernel_rfl)) (fun _ _ _ h => h) (Or.inl ⟨by rfl, ?_⟩) ?_ ?_
    rotate_left
    · intro w'
      go_simp
      with_reducible rfl
    rotate_left
    · simp only [Act.put, List.setIfInBounds_toArray, List.set_cons_zero, List.set_cons_succ, i64_w, i32_w]
      rfl
    refine pure_ (i := 5) (N := some 28) (v := ?_) (a' := ?_) #[true, false, false, false, false, true, false, false, false, false, false, false, false, false, false, false, false, false, false, false, false, false] rfl rfl (any_of HT_.out (by kernel_rfl)) (fun _ _ _ h => h) (Or.inl ⟨by rfl, ?_⟩) ?_ ?_
    rotate_left
    · intro w'
      go_simp
      with_reducible rfl
    rotate_left
    · simp only [Act.put, List.setIfInBounds_toArray, List.set_cons_zero, List.set_cons_succ, i64_w, i32_w]
      rfl
    refine pure_ (i := 9) (N := some 32) (v := ?_) (a' := ?_) #[true, false, false, false, false, true, false, false, false, true, false, false, false, false, false, false, false, false, false, false, false, false] rfl rfl (any_of HT_.out (by kernel_rfl)) (fun _ _ _ h => h) (Or.inl ⟨by rfl, ?_⟩) ?_ ?_
    rotate_left
    · intro w'
      go_simp
      with_reducible rfl
    rotate_left
    · simp only [Act.put, List.setIfInBounds_toArray, List.set_cons_zero, List.set_cons_succ, i64_w, i32_w]
      rfl
    refine pure_ (i := 11) (N := some 34) (v := ?_) (a' := ?_) #[true, false, false, false, false, true, false, false, false, true, false, true, false, false, false, false, false, false, false, false, false, false] rfl rfl (any_of HT_.out (by kernel_rfl)) (fun _ _ _ h => h) (Or.inl ⟨by rfl, ?_⟩) ?_ ?_
    rotate_left
    · intro w'
      go_simp
      with_reducible rfl
    rotate_left
    · simp only [Act.put, List.setIfInBounds_toArray, List.set_cons_zero, List.set_cons_succ, i64_w, i32_w]
      rfl
    refine pure_ (i := 15) (N := some 38) (v := ?_) (a' := ?_) #[true, false, false, false, false, true, false, false, false, true, false, true, false, false, false, true, false, false, false, false, false, false] rfl rfl (any_of HT_.out (by kernel_rfl)) (fun _ _ _ h => h) (Or.inl ⟨by rfl, ?_⟩) ?_ ?_
    rotate_left
    · intro w'
      go_simp
      with_reducible rfl
    rotate_left
    · simp only [Act.put, List.setIfInBounds_toArray, List.set_cons_zero, List.set_cons_succ, i64_w, i32_w]
      rfl
    refine take_ (i := 1) (N := some 24) (v := ?_) (a' := ?_) #[true, true, false, false, false, true, false, false, false, true, false, true, false, false, false, true, false, false, false, false, false, false] rfl rfl (take_ofW HT_.out HW_.out (by kernel_rfl)) (fun _ _ _ h => h) (Or.inl ⟨by rfl, ?_⟩) hHeld ?_ ?_
    rotate_left
    · rintro w' ⟨s0, s1, s2, s3, s4, s5, s6, s7, s8, s9, s10, s11, s12⟩
      go_simp
      with_reducible rfl
    rotate_left
    · simp only [Act.put, List.setIfInBounds_toArray, List.set_cons_zero, List.set_cons_succ, i64_w, i32_w]
      rfl
    refine take_ (i := 6) (N := some 29) (v := ?_) (a' := ?_) #[true, true, false, false, false, true, true, false, false, true, false, true, false, false, false, true, false, false, false, false, false, false] rfl rfl (take_ofW HT_.out HW_.out (by kernel_rfl)) (fun _ _ _ h => h) (Or.inl ⟨by rfl, ?_⟩) hHeld ?_ ?_
    rotate_left
    · rintro w' ⟨s0, s1, s2, s3, s4, s5, s6, s7, s8, s9, s10, s11, s12⟩
      go_simp
      with_reducible rfl
    rotate_left
    · simp only [Act.put, List.setIfInBounds_toArray, List.set_cons_zero, List.set_cons_succ, i64_w, i32_w]
      rfl
    refine take_ (i := 10) (N := some 33) (v := ?_) (a' := ?_) #[true, true, false, false, false, true, true, false, false, true, true, true, false, false, false, true, false, false, false, false, false, false] rfl rfl (take_ofW HT_.out HW_.out (by kernel_rfl)) (fun _ _ _ h => h) (Or.inl ⟨by rfl, ?_⟩) hHeld ?_ ?_
    rotate_left
    · rintro w' ⟨s0, s1, s2, s3, s4, s5, s6, s7, s8, s9, s10, s11, s12⟩
      go_simp
      with_reducible rfl
    rotate_left
    · simp only [Act.put, List.setIfInBounds_toArray, List.set_cons_zero, List.set_cons_succ, i64_w, i32_w]
      rfl
    refine take_ (i := 12) (N := some 35) (v := ?_) (a' := ?_) #[true, true, false, false, false, true, true, false, false, true, true, true, true, false, false, true, false, false, false, false, false, false] rfl rfl (take_ofW HT_.out HW_.out (by kernel_rfl)) (fun _ _ _ h => h) (Or.inl ⟨by rfl, ?_⟩) hHeld ?_ ?_
    rotate_left
    · rintro w' ⟨s0, s1, s2, s3, s4, s5, s6, s7, s8, s9, s10, s11, s12⟩
      go_simp
      with_reducible rfl
    rotate_left
    · simp only [Act.put, List.setIfInBounds_toArray, List.set_cons_zero, List.set_cons_succ, i64_w, i32_w]
      rfl
    refine pure_ (i := 13) (N := some 36) (v := ?_) (a' := ?_) #[true, true, false, false, false, true, true, false, false, true, true, true, true, true, false, true, false, false, false, false, false, false] rfl rfl (any_of HT_.out (by kernel_rfl)) (fun _ _ _ h => h) (Or.inl ⟨by rfl, ?_⟩) ?_ ?_
    rotate_left
    · intro w'
      go_simp
      with_reducible rfl
    rotate_left
    · simp only [Act.put, List.setIfInBounds_toArray, List.set_cons_zero, List.set_cons_succ, i64_w, i32_w]
      rfl
    refine take_ (i := 14) (N := some 37) (v := ?_) (a' := ?_) #[true, true, false, false, false, true, true, false, false, true, true, true, true, true, true, true, false, false, false, false, false, false] rfl rfl (take_ofW HT_.out HW_.out (by kernel_rfl)) (fun _ _ _ h => h) (Or.inl ⟨by rfl, ?_⟩) hHeld ?_ ?_
    rotate_left
    · rintro w' ⟨s0, s1, s2, s3, s4, s5, s6, s7, s8, s9, s10, s11, s12⟩
      go_simp
      with_reducible rfl
    rotate_left
    · simp only [Act.put, List.setIfInBounds_toArray, List.set_cons_zero, List.set_cons_succ, i64_w, i32_w]
      rfl
    refine take_ (i := 16) (N := some 39) (v := ?_) (a' := ?_) #[true, true, false, false, false, true, true, false, false, true, true, true, true, true, true, true, true, false, false, false, false, false] rfl rfl (take_ofW HT_.out HW_.out (by kernel_rfl)) (fun _ _ _ h => h) (Or.inl ⟨by rfl, ?_⟩) hHeld ?_ ?_
    rotate_left
    · rintro w' ⟨s0, s1, s2, s3, s4, s5, s6, s7, s8, s9, s10, s11, s12⟩
      go_simp
      with_reducible rfl
    rotate_left
    · simp only [Act.put, List.setIfInBounds_toArray, List.set_cons_zero, List.set_cons_succ, i64_w, i32_w]
      rfl
    refine pure_ (i := 17) (N := some 40) (v := ?_) (a' := ?_) #[true, true, false, false, false, true, true, false, false, true, true, true, true, true, true, true, true, true, false, false, false, false] rfl rfl (any_of HT_.out (by kernel_rfl)) (fun _ _ _ h => h) (Or.inl ⟨by rfl, ?_⟩) ?_ ?_
    rotate_left
    · intro w'
      go_simp
      with_reducible rfl
    rotate_left
    · simp only [Act.put, List.setIfInBounds_toArray, List.set_cons_zero, List.set_cons_succ, i64_w, i32_w]
      rfl
    refine pure_ (i := 18) (N := some 41) (v := ?_) (a' := ?_) #[true, true, false, false, false, true, true, false, false, true, true, true, true, true, true, true, true, true, true, false, false, false] rfl rfl (any_of HT_.out (by kernel_rfl)) (fun _ _ _ h => h) (Or.inl ⟨by rfl, ?_⟩) ?_ ?_
    rotate_left
    · intro w'
      go_simp
      with_reducible rfl
    rotate_left
    · simp only [Act.put, List.setIfInBounds_toArray, List.set_cons_zero, List.set_cons_succ, i64_w, i32_w]
      rfl
    refine take_ (i := 19) (N := some 42) (v := ?_) (a' := ?_) #[true, true, false, false, false, true, true, false, false, true, true, true, true, true, true, true, true, true, true, true, false, false] rfl rfl (take_ofW HT_.out HW_.out (by kernel_rfl)) (fun _ _ _ h => h) (Or.inl ⟨by rfl, ?_⟩) hHeld ?_ ?_
    rotate_left
    · rintro w' ⟨s0, s1, s2, s3, s4, s5, s6, s7, s8, s9, s10, s11, s12⟩
      go_simp
      with_reducible rfl
    rotate_left
    · simp only [Act.put, List.setIfInBounds_toArray, List.set_cons_zero, List.set_cons_succ, i64_w, i32_w]
      rfl
    refine one_ (i := 2) (N := some 25) #[true, true, true, false, false, true, true, false, false, true, true, true, true, true, true, true, true, true, true, true, false, false] rfl rfl (one_of HT_.out (by kernel_rfl)) (by decide) (fun K hK => ?_)
    refine goes_ Tryd.func19 (by kernel_rfl) rfl #[.int .i64 t317] (by rfl) rfl rfl (by (try simp only [List.map_toArray, List.map_cons, List.map_nil]); first | done | rfl | (simp only [List.length_drop, List.length_take]; rfl)) ?_
    with_reducible refine (strconv_Itoa_19.calls t317 t325 _ (tQ htb) A16.out).mono ?_
    rintro e w26 ⟨rfl, hb⟩
    refine ⟨_, rfl, ?_⟩
    have n0_ := AM (Kd.R_below (by (with_reducible repeat (first | apply rA | apply rD | apply r1x)); exact HO321.out) hb)
    have n1_ := AM (kB (g := gb316) (o := .cells #[.slice (some ad327) l0_0.length c0_0, .slice A0_1 l0_1.length c0_1, .slice A0_2 l0_2.length c0_2, .int .i64 a0_3, .int .i64 a0_4] 26 (0, 0)) (kW BK316) hb)
    have n2_ := AM (kB (g := gb324) (o := .cells #[.int .i64 t317, .int .i64 t318, .slice Ao11 t319.length co11, .int .i64 t322] 39 (0, 0)) (kW BK324) hb)
    have n3_ := AM (bT bQ hb)
    clear HO321
    clear BK316
    clear BK324
    clear HB
    have HO321 := n0_
    have BK316 := n1_
    have BK324 := n2_
    have HB := n3_
    clear n0_ n1_ n2_ n3_
    (try clear hb)
    (try clear hb2)
    (try clear hk)
    (try clear hi)
    refine hK.out _ _ ⟨(bC BK324.out 0).trans rfl, (bC BK324.out 1).trans rfl, (bC BK324.out 2).trans rfl, (bC BK324.out 3).trans rfl, (bC BK316.out 0).trans rfl, (bC BK316.out 1).trans rfl, (bC BK316.out 2).trans rfl, (bC BK316.out 3).trans rfl, (bC BK316.out 4).trans rfl, ((HB.out.cell (bL w _ hw327_0)).trans hw327_0), ((HB.out.cell (bL w _ hw328_0)).trans hw328_0), ((HB.out.cell (bL w _ hw328_1)).trans hw328_1), ((HB.out.cell (bL w _ hw328_2)).trans hw328_2)⟩ (fun hHeld => ?_)
    clear hK K
    refine norm_ (a' := ?_) ?_ ?_
    rotate_left
    · show Act.put _ (some 25) _ = _
      simp only [Act.put, List.setIfInBounds_toArray, List.set_cons_zero, List.set_cons_succ, i64_w, i32_w]
      rfl
    refine pure_ (i := 3) (N := some 26) (v := ?_) (a' := ?_) #[true, true, true, true, false, true, true, false, false, true, true, true, true, true, true, true, true, true, true, true, false, false] rfl rfl (any_of HT_.out (by kernel_rfl)) (fun _ _ _ h => h) (Or.inl ⟨by rfl, ?_⟩) ?_ ?_
    rotate_left
    · intro w'
      go_simp
      with_reducible rfl
    rotate_left
    · simp only [Act.put, List.setIfInBounds_toArray, List.set_cons_zero, List.set_cons_succ, i64_w, i32_w]
      rfl
    refine pure_ (i := 4) (N := some 27) (v := ?_) (a' := ?_) #[true, true, true, true, true, true, true, false, false, true, true, true, true, true, true, true, true, true, true, true, false, false] rfl rfl (any_of HT_.out (by kernel_rfl)) (fun _ _ _ h => h) (Or.inl ⟨by rfl, ?_⟩) ?_ ?_
    rotate_left
    · intro w'
      go_simp
      with_reducible rfl
    rotate_left
    · simp only [Act.put, List.setIfInBounds_toArray, List.set_cons_zero, List.set_cons_succ, i64_w, i32_w]
      rfl
    refine one_ (i := 7) (N := some 30) #[true, true, true, true, true, true, true, true, false, true, true, true, true, true, true, true, true, true, true, true, false, false] rfl rfl (one_of HT_.out (by kernel_rfl)) (by decide) (fun K hK => ?_)
    refine goes_ Tryd.func19 (by kernel_rfl) rfl #[.int .i64 t318] (by rfl) rfl rfl (by (try simp only [List.map_toArray, List.map_cons, List.map_nil]); first | done | rfl | (simp only [List.length_drop, List.length_take]; rfl)) ?_
    with_reducible refine (strconv_Itoa_19.calls t318 t326 _ (tQ htb) A19.out).mono ?_
    rintro e w27 ⟨rfl, hb⟩
    refine ⟨_, rfl, ?_⟩
    have n0_ := AM (Kd.R_below (by (with_reducible repeat (first | apply rA | apply rD | apply r1x)); exact HO321.out) hb)
    have n1_ := AM (kB (g := gb316) (o := .cells #[.slice (some ad327) l0_0.length c0_0, .slice A0_1 l0_1.length c0_1, .slice A0_2 l0_2.length c0_2, .int .i64 a0_3, .int .i64 a0_4] 26 (0, 0)) (kW BK316) hb)
    have n2_ := AM (kB (g := gb324) (o := .cells #[.int .i64 t317, .int .i64 t318, .slice Ao11 t319.length co11, .int .i64 t322] 39 (0, 0)) (kW BK324) hb)
    have n3_ := AM (bT bQ hb)
    clear HO321
    clear BK316
    clear BK324
    clear HB
    have HO321 := n0_
    have BK316 := n1_
    have BK324 := n2_
    have HB := n3_
    clear n0_ n1_ n2_ n3_
    (try clear hb)
    (try clear hb2)
    (try clear hk)
    (try clear hi)
    refine hK.out _ _ ⟨(bC BK324.out 0).trans rfl, (bC BK324.out 1).trans rfl, (bC BK324.out 2).trans rfl, (bC BK324.out 3).trans rfl, (bC BK316.out 0).trans rfl, (bC BK316.out 1).trans rfl, (bC BK316.out 2).trans rfl, (bC BK316.out 3).trans rfl, (bC BK316.out 4).trans rfl, ((HB.out.cell (bL w _ hw327_0)).trans hw327_0), ((HB.out.cell (bL w _ hw328_0)).trans hw328_0), ((HB.out.cell (bL w _ hw328_1)).trans hw328_1), ((HB.out.cell (bL w _ hw328_2)).trans hw328_2)⟩ (fun hHeld => ?_)
    clear hK K
    refine norm_ (a' := ?_) ?_ ?_
    rotate_left
    · show Act.put _ (some 30) _ = _
      simp only [Act.put, List.setIfInBounds_toArray, List.set_cons_zero, List.set_cons_succ, i64_w, i32_w]
      rfl
    refine pure_ (i := 8) (N := some 31) (v := ?_) (a' := ?_) #[true, true, true, true, true, true, true, true, true, true, true, true, true, true, true, true, true, true, true, true, false, false] rfl rfl (any_of HT_.out (by kernel_rfl)) (fun _ _ _ h => h) (Or.inl ⟨by rfl, ?_⟩) ?_ ?_
    rotate_left
    · intro w'
      go_simp
      with_reducible rfl
    rotate_left
    · simp only [Act.put, List.setIfInBounds_toArray, List.set_cons_zero, List.set_cons_succ, i64_w, i32_w]
      rfl
    refine pure_ (i := 20) (N := some 5) (v := ?_) (a' := ?_) #[true, true, true, true, true, true, true, true, true, true, true, true, true, true, true, true, true, true, true, true, true, false] rfl rfl (any_of HT_.out (by kernel_rfl)) (fun _ _ _ h => h) (Or.inl ⟨by rfl, ?_⟩) ?_ ?_
    rotate_left
    · intro w'
      go_simp
      with_reducible rfl
    rotate_left
    · simp only [Act.put, List.setIfInBounds_toArray, List.set_cons_zero, List.set_cons_succ, i64_w, i32_w]
      rfl
    refine pure_ (i := 21) (N := some 6) (v := ?_) (a' := ?_) #[true, true, true, true, true, true, true, true, true, true, true, true, true, true, true, true, true, true, true, true, true, true] rfl rfl (any_of HT_.out (by kernel_rfl)) (fun _ _ _ h => h) (Or.inl ⟨by rfl, ?_⟩) ?_ ?_
    rotate_left
    · intro w'
      go_simp
      with_reducible rfl
    rotate_left
    · simp only [Act.put, List.setIfInBounds_toArray, List.set_cons_zero, List.set_cons_succ, i64_w, i32_w]
      rfl
    refine done_ (done_of HT_.out (by kernel_rfl)) ?_
    try go_wp2
    go_meet
    case rel => exact ⟨_, ((((⟨#[115, 99, 104, 101, 109, 101, 32]⟩ : ByteArray) ++ t325) ++ (⟨#[32, 98, 97, 110, 100, 32]⟩ : ByteArray)) ++ t326), ((rd_T41 (rd_L2 l0_0 t317) t318).f1), (by first | rfl | (simp; done) | (simp [*]; done)), (by first | rfl | (simp; done) | (simp [*]; done)), H', ⟨by first | omega | exact Nat.le_refl _⟩, ⟨by (with_reducible repeat (first | apply rA | apply rD | apply r1x)); exact HO321.out⟩, ⟨by (with_reducible repeat (first | refine kD ?_ _ | refine k1_ ?_ | refine kA ?_ _)); exact BK316.out⟩, ⟨by (with_reducible repeat (first | refine kD ?_ _ | refine k1_ ?_ | refine kA ?_ _)); exact BK324.out⟩, ⟨by repeat (first | (with_reducible first | exact HB.out | apply bA | apply bD | apply b1 | refine bS ?_ GE316.out | refine bS ?_ GE324.out) | exact HB.out)⟩⟩
  case rest =>
    clear HC4
    (try clear c1); (try clear c2); (try clear p2); (try clear c3); (try clear c3b0); (try clear c3b1); (try clear p3); (try clear q3); (try clear hx3); (try clear c8); (try clear c9); (try clear c10); (try clear c15); (try clear c15b0); (try clear c17); (try clear c17b0); (try clear c17b1); (try clear c17b2); (try clear c18); (try clear c18b0); (try clear c18b1); (try clear c18b2); (try clear c19); (try clear c20); (try clear c20b0); (try clear c20b1); (try clear c20b2); (try clear c21); (try clear c21b0); (try clear c22); (try clear c22b0); (try clear c23); (try clear c23b0); (try clear c24); (try clear c24b0); (try clear hcz10_0); (try clear hcz10_1); (try clear hcz10_2); (try clear hcz10_3); (try clear hcz14_0); (try clear hcz14_1); (try clear hcz14_2); (try clear hcz14_3); (try clear hcz6_0); (try clear hcz6_1); (try clear hcz6_2); (try clear hcz6_3); (try clear hcz6_4); (try clear hfz10_0); (try clear hfz10_1); (try clear hfz10_2); (try clear hfz10_3); (try clear hfz14_0); (try clear hfz14_1); (try clear hfz14_2); (try clear hfz14_3); (try clear hfz6_0); (try clear hfz6_1); (try clear hfz6_2); (try clear hfz6_3); (try clear hfz6_4); (try clear hx327_0); (try clear hx328_0); (try clear hx328_1); (try clear hx328_2); (try clear p327); (try clear p328); (try clear q327); (try clear q328)
    obtain ⟨kq, x5_3, x6_3, rfl, rfl, HA, HJ3, HO_325002, BK316, BK324, HB⟩ := hcut
    cases kq with
    | zero => exact absurd HA.out (by simp [keep_Lines.j0])
    | succ kj3 =>
      have H := HA.out
      clear HA
      simp only [keep_Lines.j0] at H
      by_cases c28 : x5_3.size + 1 ≤ 9223372036854775807
      rotate_left
      · rw [if_neg c28] at H
        exact absurd H (by simp)
      rw [if_pos c28] at H
      have c28b0 := eq_true c28
      have c28b1 : decide (x5_3.size + 1 ≤ 9223372036854775807) = true := decide_eq_true c28
      try have c28b2 : (9223372036854775807 < x5_3.size + 1) = False := eq_false (Nat.not_lt.2 c28)
      replace H := Option.bind_eq_some_iff.mp H
      obtain ⟨t329, A290, H⟩ := H
      replace H : (if (x5_3 ++ (⟨#[32]⟩ : ByteArray)).size + t329.size ≤ 9223372036854775807 then (keep_Lines.l0 kj3 (([(x5_3 ++ (⟨#[32]⟩ : ByteArray)) ++ t329] : List ByteArray)) t319 (t319.length : Int) 0 l0_0 l0_1 l0_2 a0_3 a0_4 t317 t318 t319 t322) else (none)) = some r := H
      have A29 := AM A290
      clear A290
      by_cases c30 : (x5_3 ++ (⟨#[32]⟩ : ByteArray)).size + t329.size ≤ 9223372036854775807
      rotate_left
      · rw [if_neg c30] at H
        exact absurd H (by simp)
      rw [if_pos c30] at H
      have c30b0 := eq_true c30
      have c30b1 : decide ((x5_3 ++ (⟨#[32]⟩ : ByteArray)).size + t329.size ≤ 9223372036854775807) = true := decide_eq_true c30
      try have c30b2 : (9223372036854775807 < (x5_3 ++ (⟨#[32]⟩ : ByteArray)).size + t329.size) = False := eq_false (Nat.not_lt.2 c30)
      try have c30b3 : (9223372036854775807 < x5_3.size + 1 + t329.size) = False := eq_false (Nat.not_lt.2 (by have h := c30; simp only [ByteArray.size_append] at h; exact h))
      obtain ⟨y330, hy330⟩ : ∃ y_ : List ByteArray, y_ = (([(x5_3 ++ (⟨#[32]⟩ : ByteArray)) ++ t329] : List ByteArray)) := ⟨_, rfl⟩
      replace H : (keep_Lines.l0 kj3 y330 t319 (t319.length : Int) 0 l0_0 l0_1 l0_2 a0_3 a0_4 t317 t318 t319 t322) = some r := by first | (rw [hy330]; with_reducible exact H) | (have H2_ := (Option.bind_some _ _).symm.trans H; rw [hy330]; with_reducible exact H2_) | (have H2_ := (Option.bind_some _ _).symm.trans H; with_reducible exact H2_) | with_reducible exact H | (rw [hy330]; exact H) | exact H
      have Ny330 := AM hy330
      clear hy330
      have H' := AM H
      clear H
      go_wp2_with (first | ((with_reducible refine gC (f := 19) rfl ?_); refine gL (some 46) rfl rfl Tryd.func19 (by kernel_rfl) rfl #[.int .i64 x6_3] rfl (by (try simp only [List.map_toArray, List.map_cons, List.map_nil]); first | done | rfl | (simp only [List.length_drop, List.length_take]; rfl)) ?_; (with_reducible refine (strconv_Itoa_19.calls x6_3 t329 _ (tQ htb) A29.out).mono ?_); rintro e w31 ⟨rfl, hb⟩; refine ⟨_, rfl, ?_⟩; have n0_ := AM (Kd.R_below (by (with_reducible repeat (first | apply rA | apply rD | apply r1x)); exact HO_325002.out) hb); have n1_ := AM (kB (g := gb316) (o := .cells #[.slice A0_0 l0_0.length c0_0, .slice A0_1 l0_1.length c0_1, .slice A0_2 l0_2.length c0_2, .int .i64 a0_3, .int .i64 a0_4] 26 (0, 0)) (kW BK316) hb); have n2_ := AM (kB (g := gb324) (o := .cells #[.int .i64 t317, .int .i64 t318, .slice Ao11 t319.length co11, .int .i64 t322] 39 (0, 0)) (kW BK324) hb); have n3_ := AM (bT bQ hb); clear HO_325002; clear BK316; clear BK324; clear HB; have HO_325002 := n0_; have BK316 := n1_; have BK324 := n2_; have HB := n3_; clear n0_ n1_ n2_ n3_; (try clear hb); (try clear hb2); (try clear hk); (try clear hi)) | ((with_reducible refine gD (N := 48) rfl ?_); refine Kd.R_lit Kd.string _ 9 ?hg (N := 48) ?hd (xs := ([(x5_3 ++ (⟨#[32]⟩ : ByteArray)) ++ t329] : List ByteArray)) (inner := [.string ((x5_3 ++ (⟨#[32]⟩ : ByteArray)) ++ t329)]) (ok := fun _ => True) (okp := fun _ => True) ?hr ?hp (fun _ hk => hk) trivial (Below.refl _ _) (Nat.le_refl _) (by simp) ?_; (case hd => rfl); (case hg => rfl); (case hr => first | (go_simp; done) | (go_simp; rfl)); (case hp => exact (Reps.one (show Kd.M Kd.string _ _ _ ((x5_3 ++ (⟨#[32]⟩ : ByteArray)) ++ t329) [.string ((x5_3 ++ (⟨#[32]⟩ : ByteArray)) ++ t329)] from rfl) (Reps.none _ _))); intro v331 w32 ho33 hb hg_ hnew_; clear hg_ hnew_; (first | rw [← Ny330.out] at ho33 | (simp only [Int.reduceToNat] at ho33; rw [← Ny330.out] at ho33)); have n0_ := AM (Kd.R_below (by (with_reducible repeat (first | apply rA | apply rD | apply r1x)); exact HO_325002.out) hb); have n1_ := AM (Kd.R_lower ho33 (bZ bQ)); have n2_ := AM (kB (g := gb316) (o := .cells #[.slice A0_0 l0_0.length c0_0, .slice A0_1 l0_1.length c0_1, .slice A0_2 l0_2.length c0_2, .int .i64 a0_3, .int .i64 a0_4] 26 (0, 0)) (kW BK316) hb); have n3_ := AM (kB (g := gb324) (o := .cells #[.int .i64 t317, .int .i64 t318, .slice Ao11 t319.length co11, .int .i64 t322] 39 (0, 0)) (kW BK324) hb); have n4_ := AM (bT bQ hb); clear HO_325002; clear BK316; clear BK324; clear HB; have HO_325002 := n0_; have HO332 := n1_; have BK316 := n2_; have BK324 := n3_; have HB := n4_; clear n0_ n1_ n2_ n3_ n4_; clear hb ho33; have hnb34 := NB324_316.out; have hnc34 := NB316_324.out; obtain ⟨_, _, _, _, _, _, _, _⟩ := bX4 BK324.out))
      go_loopg [7, 52] kj3 (fun kq v7 v52 w' => ∃ (x7_2 : List ByteArray) (x52_2 : Int), v52 = .int .i64 x52_2 ∧ Aside0 (keep_Lines.l0 kq x7_2 t319 (t319.length : Int) x52_2 l0_0 l0_1 l0_2 a0_3 a0_4 t317 t318 t319 t322 = some r) ∧ Aside0 (kq ≤ kj3) ∧ Aside0 (Kd.R Kd.string 9 w' w.heap.size (fun _ => True) v7 x7_2) ∧ Aside0 (Kd.R (Kd.int .i64) 3 w' w.heap.size (fun _ => True) (.slice Ao11 t319.length co11) t319) ∧ Aside0 (Kd.R (Kd.int .i64) 3 w' w.heap.size (fun _ => True) (.slice Ao11 t319.length co11) t319) ∧ Aside0 (w'.heap[gb316]? = some (.cells #[(.slice A0_0 l0_0.length c0_0), (.slice A0_1 l0_1.length c0_1), (.slice A0_2 l0_2.length c0_2), .int .i64 a0_3, .int .i64 a0_4] 26 (0, 0))) ∧ Aside0 (w'.heap[gb324]? = some (.cells #[.int .i64 t317, .int .i64 t318, (.slice Ao11 t319.length co11), .int .i64 t322] 39 (0, 0))) ∧ Aside0 (Below w.heap.size w w'))
      case atStart => exact ⟨(y330), (0), (by first | rfl | (simp; done) | (simp [*]; done)), H', ⟨Nat.le_refl _⟩, ⟨by (with_reducible repeat (first | apply rA | apply rD | apply r1x)); exact HO332.out⟩, ⟨by (with_reducible repeat (first | apply rA | apply rD | apply r1x)); exact HO_325002.out⟩, ⟨by (with_reducible repeat (first | apply rA | apply rD | apply r1x)); exact HO_325002.out⟩, ⟨by (with_reducible repeat (first | refine kD ?_ _ | refine k1_ ?_ | refine kA ?_ _)); exact BK316.out⟩, ⟨by (with_reducible repeat (first | refine kD ?_ _ | refine k1_ ?_ | refine kA ?_ _)); exact BK324.out⟩, ⟨by repeat (first | (with_reducible first | exact HB.out | apply bA | apply bD | apply b1 | refine bS ?_ GE316.out | refine bS ?_ GE324.out) | exact HB.out)⟩⟩
      case round =>
        clear H'
        (try clear c1); (try clear c2); (try clear p2); (try clear c3); (try clear c3b0); (try clear c3b1); (try clear p3); (try clear q3); (try clear hx3); (try clear c8); (try clear c9); (try clear c10); (try clear c15); (try clear c15b0); (try clear c17); (try clear c17b0); (try clear c17b1); (try clear c17b2); (try clear c18); (try clear c18b0); (try clear c18b1); (try clear c18b2); (try clear c19); (try clear c20); (try clear c20b0); (try clear c20b1); (try clear c20b2); (try clear c21); (try clear c21b0); (try clear c22); (try clear c22b0); (try clear c23); (try clear c23b0); (try clear c24); (try clear c24b0); (try clear c28); (try clear c28b0); (try clear c28b1); (try clear c28b2); (try clear c30); (try clear c30b0); (try clear c30b1); (try clear c30b2); (try clear c32); (try clear p32); (try clear q32); (try clear hx32); (try clear c34); (try clear hcz10_0); (try clear hcz10_1); (try clear hcz10_2); (try clear hcz10_3); (try clear hcz14_0); (try clear hcz14_1); (try clear hcz14_2); (try clear hcz14_3); (try clear hcz35_0); (try clear hcz35_1); (try clear hcz35_2); (try clear hcz35_3); (try clear hcz6_0); (try clear hcz6_1); (try clear hcz6_2); (try clear hcz6_3); (try clear hcz6_4); (try clear hfz10_0); (try clear hfz10_1); (try clear hfz10_2); (try clear hfz10_3); (try clear hfz14_0); (try clear hfz14_1); (try clear hfz14_2); (try clear hfz14_3); (try clear hfz35_0); (try clear hfz35_1); (try clear hfz35_2); (try clear hfz35_3); (try clear hfz6_0); (try clear hfz6_1); (try clear hfz6_2); (try clear hfz6_3); (try clear hfz6_4); (try clear hx327_0); (try clear hx328_0); (try clear hx328_1); (try clear hx328_2); (try clear p2); (try clear p3); (try clear p327); (try clear p328); (try clear q3); (try clear q327); (try clear q328)
        obtain ⟨x7_2, x52_2, rfl, HA, HK2, HO_7, HO_50, HO_325002, BK316, BK324, HB⟩ := hrel
        cases gk with
        | zero => exact absurd HA.out (by simp [keep_Lines.l0])
        | succ k2 =>
          have H := HA.out
          clear HA
          simp only [keep_Lines.l0] at H
          by_cases c36 : x52_2 < (t319.length : Int)
          rotate_left
          · rw [if_neg c36] at H
            have c36b0 := decide_eq_false c36
            clear c36
            replace H := Option.bind_eq_some_iff.mp H
            obtain ⟨t342, A600, H⟩ := H
            replace H : (if 5 + t342.size ≤ 9223372036854775807 then (if x7_2.length < 8796093022208 then (some (x7_2 ++ [(⟨#[107, 101, 101, 112, 32]⟩ : ByteArray) ++ t342])) else (none)) else (none)) = some r := H
            have A60 := AM A600
            clear A600
            by_cases c61 : 5 + t342.size ≤ 9223372036854775807
            rotate_left
            · rw [if_neg c61] at H
              exact absurd H (by simp)
            rw [if_pos c61] at H
            have c61b0 := eq_true c61
            have c61b1 : decide (5 + t342.size ≤ 9223372036854775807) = true := decide_eq_true c61
            try have c61b2 : (9223372036854775807 < 5 + t342.size) = False := eq_false (Nat.not_lt.2 c61)
            by_cases c62 : x7_2.length < 8796093022208
            rotate_left
            · rw [if_neg c62] at H
              exact absurd H (by simp)
            rw [if_pos c62] at H
            have LMc62 := AM c62
            clear c62
            obtain ⟨y343, hy343⟩ : ∃ y_ : List ByteArray, y_ = (x7_2 ++ [(⟨#[107, 101, 101, 112, 32]⟩ : ByteArray) ++ t342]) := ⟨_, rfl⟩
            replace H : (some y343) = some r := by first | (rw [hy343]; with_reducible exact H) | (have H2_ := (Option.bind_some _ _).symm.trans H; rw [hy343]; with_reducible exact H2_) | (have H2_ := (Option.bind_some _ _).symm.trans H; with_reducible exact H2_) | with_reducible exact H | (rw [hy343]; exact H) | exact H
            have Ny343 := AM hy343
            clear hy343
            obtain rfl := Option.some.inj H
            have hnb63 := NB324_316.out
            have hnc63 := NB316_324.out
            obtain ⟨_, _, _, _, _, _, _, _⟩ := bX4 BK324.out
            go_wp2_with (first | ((with_reducible refine gC (f := 19) rfl ?_); refine gL (some 84) rfl rfl Tryd.func19 (by kernel_rfl) rfl #[.int .i64 t322] rfl (by (try simp only [List.map_toArray, List.map_cons, List.map_nil]); first | done | rfl | (simp only [List.length_drop, List.length_take]; rfl)) ?_; (with_reducible refine (strconv_Itoa_19.calls t322 t342 _ (tQ htb) A60.out).mono ?_); rintro e w65 ⟨rfl, hb⟩; refine ⟨_, rfl, ?_⟩; have n0_ := AM (Kd.R_below (by (with_reducible repeat (first | apply rA | apply rD | apply r1x)); exact HO_7.out) hb); have n1_ := AM (Kd.R_below (by (with_reducible repeat (first | apply rA | apply rD | apply r1x)); exact HO_50.out) hb); have n2_ := AM (Kd.R_below (by (with_reducible repeat (first | apply rA | apply rD | apply r1x)); exact HO_325002.out) hb); have n3_ := AM (kB (g := gb316) (o := .cells #[.slice A0_0 l0_0.length c0_0, .slice A0_1 l0_1.length c0_1, .slice A0_2 l0_2.length c0_2, .int .i64 a0_3, .int .i64 a0_4] 26 (0, 0)) (kW BK316) hb); have n4_ := AM (kB (g := gb324) (o := .cells #[.int .i64 t317, .int .i64 t318, .slice Ao11 t319.length co11, .int .i64 t322] 39 (0, 0)) (kW BK324) hb); have n5_ := AM (bT bQ hb); clear HO_7; clear HO_50; clear HO_325002; clear BK316; clear BK324; clear HB; have HO_7 := n0_; have HO_50 := n1_; have HO_325002 := n2_; have BK316 := n3_; have BK324 := n4_; have HB := n5_; clear n0_ n1_ n2_ n3_ n4_ n5_; (try clear hb); (try clear hb2); (try clear hk); (try clear hi)) | ((with_reducible refine gate_builtin (b := .append) (xs := #[.tmp 81, .tmp 86]) rfl ?_); at_builtin; refine Kd.R_append Kd.string (w0 := w) w.heap.size rfl (.tmp 81) (.tmp 86) 34 9 (.string ⟨#[]⟩) 16 rfl Tryd.underlying34 info9 rfl (by decide) (by omega) u7 x7_2 ((⟨#[107, 101, 101, 112, 32]⟩ : ByteArray) ++ t342) [.string ((⟨#[107, 101, 101, 112, 32]⟩ : ByteArray) ++ t342)] (fun _ => True) (fun _ => False) rfl rfl ?aP (fun _ hk => hk.elim) ?aF ?aO ?aB ?aS ?aL ?_; (case aP => exact rfl); (case aB => exact bQ); (case aF => exact (fun _ _ => trivial)); (case aO => exact (by (with_reducible repeat (first | apply rA | apply rD | apply r1x)); exact HO_7.out)); (case aS => exact (bZ bQ)); (case aL => have := LMc62.out; omega); intro v344 w66 ho hb hg hat; rw [← Ny343.out] at ho; have n0_ := AM (Kd.R_over' (by (with_reducible repeat (first | apply rA | apply rD | apply r1x)); exact HO_50.out) (Kd.R_typed (by (with_reducible repeat (first | apply rA | apply rD | apply r1x)); exact HO_7.out)) (by decide) hg); have n1_ := AM (Kd.R_over' (by (with_reducible repeat (first | apply rA | apply rD | apply r1x)); exact HO_325002.out) (Kd.R_typed (by (with_reducible repeat (first | apply rA | apply rD | apply r1x)); exact HO_7.out)) (by decide) hg); have n2_ := AM (blk_grown (g := gb316) (o := .cells #[.slice A0_0 l0_0.length c0_0, .slice A0_1 l0_1.length c0_1, .slice A0_2 l0_2.length c0_2, .int .i64 a0_3, .int .i64 a0_4] 26 (0, 0)) (kW BK316) hg (Kd.R_ne HO_7.out BK316.out (by decide))); have n3_ := AM (blk_grown (g := gb324) (o := .cells #[.int .i64 t317, .int .i64 t318, .slice Ao11 t319.length co11, .int .i64 t322] 39 (0, 0)) (kW BK324) hg (Kd.R_ne HO_7.out BK324.out (by decide))); have n4_ := AM (hb); have n5_ := AM (ho); clear HO_50; clear HO_325002; clear BK316; clear BK324; clear HB; clear HO_7; have HO_50 := n0_; have HO_325002 := n1_; have BK316 := n2_; have BK324 := n3_; have HB := n4_; have HO345 := n5_; clear n0_ n1_ n2_ n3_ n4_ n5_; clear ho hb hg hat))
            go_ret
            exact ⟨_, by first | rfl | (simp [errW_none, errW_some] <;> rfl) | (simp [*, errW_none, errW_some] <;> rfl), by (with_reducible repeat (first | apply rA | apply rD | apply r1x)); exact HO345.out, by repeat (first | (with_reducible first | exact HB.out | apply bA | apply bD | apply b1 | refine bS ?_ GE316.out | refine bS ?_ GE324.out) | exact HB.out)⟩
          rw [if_pos c36] at H
          have c36b0 := decide_eq_true c36
          clear c36
          by_cases c37 : 0 ≤ x52_2
          rotate_left
          · rw [if_neg c37] at H
            exact absurd H (by simp)
          rw [if_pos c37] at H
          have c37b0 := decide_eq_true c37
          clear c37
          by_cases c38 : x52_2 < (t319.length : Int)
          rotate_left
          · rw [if_neg c38] at H
            exact absurd H (by simp)
          rw [if_pos c38] at H
          have c38b0 := decide_eq_true c38
          clear c38
          by_cases c39 : x52_2 < (l0_1.length : Int)
          rotate_left
          · rw [if_neg c39] at H
            exact absurd H (by simp)
          rw [if_pos c39] at H
          have c39b0 := decide_eq_true c39
          clear c39
          by_cases c40 : ((rd_T43 l0_1 x52_2).f0).size + 6 ≤ 9223372036854775807
          rotate_left
          · rw [if_neg c40] at H
            exact absurd H (by simp)
          rw [if_pos c40] at H
          have c40b0 := eq_true c40
          have c40b1 : decide (((rd_T43 l0_1 x52_2).f0).size + 6 ≤ 9223372036854775807) = true := decide_eq_true c40
          try have c40b2 : (9223372036854775807 < ((rd_T43 l0_1 x52_2).f0).size + 6) = False := eq_false (Nat.not_lt.2 c40)
          replace H := Option.bind_eq_some_iff.mp H
          obtain ⟨t336, A410, H⟩ := H
          replace H : (if (((rd_T43 l0_1 x52_2).f0) ++ (⟨#[32, 98, 97, 110, 100, 32]⟩ : ByteArray)).size + t336.size ≤ 9223372036854775807 then (if ((((rd_T43 l0_1 x52_2).f0) ++ (⟨#[32, 98, 97, 110, 100, 32]⟩ : ByteArray)) ++ t336).size + 1 ≤ 9223372036854775807 then (if 0 ≤ (rd t319 x52_2) then (if (rd t319 x52_2) < (((rd_T43 l0_1 x52_2).f2).length : Int) then ((strconv_Itoa_19.f ((rd_T41 ((rd_T43 l0_1 x52_2).f2) (rd t319 x52_2)).f1)).bind fun t338 => (if (((((rd_T43 l0_1 x52_2).f0) ++ (⟨#[32, 98, 97, 110, 100, 32]⟩ : ByteArray)) ++ t336) ++ (⟨#[32]⟩ : ByteArray)).size + t338.size ≤ 9223372036854775807 then (if x7_2.length < 8796093022208 then (keep_Lines.l0 k2 (x7_2 ++ [(((((rd_T43 l0_1 x52_2).f0) ++ (⟨#[32, 98, 97, 110, 100, 32]⟩ : ByteArray)) ++ t336) ++ (⟨#[32]⟩ : ByteArray)) ++ t338]) t319 (t319.length : Int) (wrap64 (x52_2 + 1)) l0_0 l0_1 l0_2 a0_3 a0_4 t317 t318 t319 t322) else (none)) else (none))) else (none)) else (none)) else (none)) else (none)) = some r := H
          have A41 := AM A410
          clear A410
          by_cases c42 : (((rd_T43 l0_1 x52_2).f0) ++ (⟨#[32, 98, 97, 110, 100, 32]⟩ : ByteArray)).size + t336.size ≤ 9223372036854775807
          rotate_left
          · rw [if_neg c42] at H
            exact absurd H (by simp)
          rw [if_pos c42] at H
          have c42b0 := eq_true c42
          have c42b1 : decide ((((rd_T43 l0_1 x52_2).f0) ++ (⟨#[32, 98, 97, 110, 100, 32]⟩ : ByteArray)).size + t336.size ≤ 9223372036854775807) = true := decide_eq_true c42
          try have c42b2 : (9223372036854775807 < (((rd_T43 l0_1 x52_2).f0) ++ (⟨#[32, 98, 97, 110, 100, 32]⟩ : ByteArray)).size + t336.size) = False := eq_false (Nat.not_lt.2 c42)
          try have c42b3 : (9223372036854775807 < (rd_T43 l0_1 x52_2).f0.size + 6 + t336.size) = False := eq_false (Nat.not_lt.2 (by have h := c42; simp only [ByteArray.size_append] at h; exact h))
          by_cases c43 : ((((rd_T43 l0_1 x52_2).f0) ++ (⟨#[32, 98, 97, 110, 100, 32]⟩ : ByteArray)) ++ t336).size + 1 ≤ 9223372036854775807
          rotate_left
          · rw [if_neg c43] at H
            exact absurd H (by simp)
          rw [if_pos c43] at H
          have c43b0 := eq_true c43
          have c43b1 : decide (((((rd_T43 l0_1 x52_2).f0) ++ (⟨#[32, 98, 97, 110, 100, 32]⟩ : ByteArray)) ++ t336).size + 1 ≤ 9223372036854775807) = true := decide_eq_true c43
          try have c43b2 : (9223372036854775807 < ((((rd_T43 l0_1 x52_2).f0) ++ (⟨#[32, 98, 97, 110, 100, 32]⟩ : ByteArray)) ++ t336).size + 1) = False := eq_false (Nat.not_lt.2 c43)
          try have c43b3 : (9223372036854775807 < (rd_T43 l0_1 x52_2).f0.size + 6 + t336.size + 1) = False := eq_false (Nat.not_lt.2 (by have h := c43; simp only [ByteArray.size_append] at h; exact h))
          by_cases c44 : 0 ≤ (rd t319 x52_2)
          rotate_left
          · rw [if_neg c44] at H
            exact absurd H (by simp)
          rw [if_pos c44] at H
          have c44b0 := decide_eq_true c44
          clear c44
          by_cases c45 : (rd t319 x52_2) < (((rd_T43 l0_1 x52_2).f2).length : Int)
          rotate_left
          · rw [if_neg c45] at H
            exact absurd H (by simp)
          rw [if_pos c45] at H
          have c45b0 := decide_eq_true c45
          clear c45
          replace H := Option.bind_eq_some_iff.mp H
          obtain ⟨t338, A460, H⟩ := H
          replace H : (if (((((rd_T43 l0_1 x52_2).f0) ++ (⟨#[32, 98, 97, 110, 100, 32]⟩ : ByteArray)) ++ t336) ++ (⟨#[32]⟩ : ByteArray)).size + t338.size ≤ 9223372036854775807 then (if x7_2.length < 8796093022208 then (keep_Lines.l0 k2 (x7_2 ++ [(((((rd_T43 l0_1 x52_2).f0) ++ (⟨#[32, 98, 97, 110, 100, 32]⟩ : ByteArray)) ++ t336) ++ (⟨#[32]⟩ : ByteArray)) ++ t338]) t319 (t319.length : Int) (wrap64 (x52_2 + 1)) l0_0 l0_1 l0_2 a0_3 a0_4 t317 t318 t319 t322) else (none)) else (none)) = some r := H
          have A46 := AM A460
          clear A460
          by_cases c47 : (((((rd_T43 l0_1 x52_2).f0) ++ (⟨#[32, 98, 97, 110, 100, 32]⟩ : ByteArray)) ++ t336) ++ (⟨#[32]⟩ : ByteArray)).size + t338.size ≤ 9223372036854775807
          rotate_left
          · rw [if_neg c47] at H
            exact absurd H (by simp)
          rw [if_pos c47] at H
          have c47b0 := eq_true c47
          have c47b1 : decide ((((((rd_T43 l0_1 x52_2).f0) ++ (⟨#[32, 98, 97, 110, 100, 32]⟩ : ByteArray)) ++ t336) ++ (⟨#[32]⟩ : ByteArray)).size + t338.size ≤ 9223372036854775807) = true := decide_eq_true c47
          try have c47b2 : (9223372036854775807 < (((((rd_T43 l0_1 x52_2).f0) ++ (⟨#[32, 98, 97, 110, 100, 32]⟩ : ByteArray)) ++ t336) ++ (⟨#[32]⟩ : ByteArray)).size + t338.size) = False := eq_false (Nat.not_lt.2 c47)
          try have c47b3 : (9223372036854775807 < (rd_T43 l0_1 x52_2).f0.size + 6 + t336.size + 1 + t338.size) = False := eq_false (Nat.not_lt.2 (by have h := c47; simp only [ByteArray.size_append] at h; exact h))
          by_cases c48 : x7_2.length < 8796093022208
          rotate_left
          · rw [if_neg c48] at H
            exact absurd H (by simp)
          rw [if_pos c48] at H
          have LMc48 := AM c48
          clear c48
          obtain ⟨y339, hy339⟩ : ∃ y_ : List ByteArray, y_ = (x7_2 ++ [(((((rd_T43 l0_1 x52_2).f0) ++ (⟨#[32, 98, 97, 110, 100, 32]⟩ : ByteArray)) ++ t336) ++ (⟨#[32]⟩ : ByteArray)) ++ t338]) := ⟨_, rfl⟩
          replace H : (keep_Lines.l0 k2 y339 t319 (t319.length : Int) (wrap64 (x52_2 + 1)) l0_0 l0_1 l0_2 a0_3 a0_4 t317 t318 t319 t322) = some r := by first | (rw [hy339]; with_reducible exact H) | (have H2_ := (Option.bind_some _ _).symm.trans H; rw [hy339]; with_reducible exact H2_) | (have H2_ := (Option.bind_some _ _).symm.trans H; with_reducible exact H2_) | with_reducible exact H | (rw [hy339]; exact H) | exact H
          have Ny339 := AM hy339
          clear hy339
          have H' := AM H
          clear H
          have p333 : 0 ≤ (x52_2 : Int) := of_decide_eq_true (by first | (with_reducible assumption) | assumption)
          have q333 : x52_2 < (t319.length : Int) := of_decide_eq_true (by first | (with_reducible assumption) | assumption)
          obtain ⟨ad333, e333, hx333_0⟩ := Kd.at_int (Kd.R_reads' HO_50.out).2.2 x52_2 p333 q333
          cases e333
          replace p333 := eq_true p333
          replace q333 := eq_true q333
          have hnb49 := NB316_324.out
          have hnc49 := NB324_316.out
          obtain ⟨_, _, _, _, _, _, _, _, _, _⟩ := bX5 BK316.out
          have p334 : 0 ≤ (x52_2 : Int) := of_decide_eq_true (by first | (with_reducible assumption) | assumption)
          have q334 : x52_2 < (l0_1.length : Int) := of_decide_eq_true (by first | (with_reducible assumption) | assumption)
          obtain ⟨ad334, A334_2, c334_2, e334, hx334_0, hx334_1, hx334_2, hx334_3, hx334_4, hx334_5, hl334_2, hi334_2⟩ := at_T43 HR0_1.out x52_2 p334 q334
          cases e334
          replace hx334_0 := (HB.out.cell (bL w _ hx334_0)).trans hx334_0
          replace hx334_1 := (HB.out.cell (bL w _ hx334_1)).trans hx334_1
          replace hx334_2 := (HB.out.cell (bL w _ hx334_2)).trans hx334_2
          replace hx334_3 := (HB.out.cell (bL w _ hx334_3)).trans hx334_3
          replace hx334_4 := (HB.out.cell (bL w _ hx334_4)).trans hx334_4
          replace hx334_5 := (HB.out.cell (bL w _ hx334_5)).trans hx334_5
          have HR334_2 := AM hi334_2
          have HC334_2 := AM hl334_2
          clear hi334_2 hl334_2
          replace p334 := eq_true p334
          replace q334 := eq_true q334
          try go_wp2_with (first | ((with_reducible refine gD (N := 10) rfl ?_); refine bE ?hg (N := 10) ?hd (cs := #[.string (⟨#[]⟩ : ByteArray), .int .i64 0, .slice none 0 0, .int .i64 0, .int .i64 0, .int .i64 0]) (t := 49) ?hr ?_; (case hd => rfl); (case hg => rfl); (case hr => first | (go_simp; done) | (go_simp; rfl)); intro gb335 hg w51 hbox hb; have n0_ := AM (Kd.R_below (by (with_reducible repeat (first | apply rA | apply rD | apply r1x)); exact HO_7.out) hb); have n1_ := AM (Kd.R_below (by (with_reducible repeat (first | apply rA | apply rD | apply r1x)); exact HO_50.out) hb); have n2_ := AM (Kd.R_below (by (with_reducible repeat (first | apply rA | apply rD | apply r1x)); exact HO_325002.out) hb); have n3_ := AM (kB (g := gb316) (o := .cells #[.slice A0_0 l0_0.length c0_0, .slice (some ad334) l0_1.length c0_1, .slice A0_2 l0_2.length c0_2, .int .i64 a0_3, .int .i64 a0_4] 26 (0, 0)) (kW BK316) hb); have n4_ := AM (kB (g := gb324) (o := .cells #[.int .i64 t317, .int .i64 t318, .slice (some ad333) t319.length co11, .int .i64 t322] 39 (0, 0)) (kW BK324) hb); have n5_ := AM (bT bQ hb); have n6_ := AM (hbox); have n7_ := AM ((by rw [hg]; exact (bZ bQ) : w.heap.size ≤ gb335)); have n8_ := AM ((by rw [hg]; exact (bZ bQ) : w.heap.size ≤ gb335)); have n9_ := AM ((by rw [hg]; exact Nat.ne_of_lt (blk_lt (g := gb316) (o := .cells #[.slice A0_0 l0_0.length c0_0, .slice (some ad334) l0_1.length c0_1, .slice A0_2 l0_2.length c0_2, .int .i64 a0_3, .int .i64 a0_4] 26 (0, 0)) (kW BK316)) : gb316 ≠ gb335)); have n10_ := AM ((by rw [hg]; exact Nat.ne_of_gt (blk_lt (g := gb316) (o := .cells #[.slice A0_0 l0_0.length c0_0, .slice (some ad334) l0_1.length c0_1, .slice A0_2 l0_2.length c0_2, .int .i64 a0_3, .int .i64 a0_4] 26 (0, 0)) (kW BK316)) : gb335 ≠ gb316)); have n11_ := AM ((by rw [hg]; exact Nat.ne_of_lt (blk_lt (g := gb324) (o := .cells #[.int .i64 t317, .int .i64 t318, .slice (some ad333) t319.length co11, .int .i64 t322] 39 (0, 0)) (kW BK324)) : gb324 ≠ gb335)); have n12_ := AM ((by rw [hg]; exact Nat.ne_of_gt (blk_lt (g := gb324) (o := .cells #[.int .i64 t317, .int .i64 t318, .slice (some ad333) t319.length co11, .int .i64 t322] 39 (0, 0)) (kW BK324)) : gb335 ≠ gb324)); clear HO_7; clear HO_50; clear HO_325002; clear BK316; clear BK324; clear HB; have HO_7 := n0_; have HO_50 := n1_; have HO_325002 := n2_; have BK316 := n3_; have BK324 := n4_; have HB := n5_; have BK335 := n6_; have GW335 := n7_; have GE335 := n8_; have NB316_335 := n9_; have NB335_316 := n10_; have NB324_335 := n11_; have NB335_324 := n12_; clear n0_ n1_ n2_ n3_ n4_ n5_ n6_ n7_ n8_ n9_ n10_ n11_ n12_; clear hb hbox hg; have hnb52 := NB335_316.out; have hnc52 := NB316_335.out; have hnb53 := NB335_324.out; have hnc53 := NB324_335.out; obtain ⟨_, _, _, _, _, _, _, _, _, _, _, _⟩ := bX6 BK335.out))
          have n0_ : Aside0 (Kd.R Kd.string 9 ((((((w51.setCell ⟨gb335, 0, none⟩ (.string ((rd_T43 l0_1 x52_2).f0))).setCell ⟨gb335, 1, none⟩ (.int .i64 ((rd_T43 l0_1 x52_2).f1))).setCell ⟨gb335, 2, none⟩ (.slice A334_2 ((rd_T43 l0_1 x52_2).f2).length c334_2)).setCell ⟨gb335, 3, none⟩ (.int .i64 ((rd_T43 l0_1 x52_2).f3))).setCell ⟨gb335, 4, none⟩ (.int .i64 ((rd_T43 l0_1 x52_2).f4))).setCell ⟨gb335, 5, none⟩ (.int .i64 ((rd_T43 l0_1 x52_2).f5))) w.heap.size (fun _ => True) u7 x7_2) := ⟨by (with_reducible repeat (first | apply rA | apply rD | apply r1x)); exact Kd.R_mono (Kd.R_far (p := ⟨gb335, 5, none⟩) (Kd.R_far (p := ⟨gb335, 4, none⟩) (Kd.R_far (p := ⟨gb335, 3, none⟩) (Kd.R_far (p := ⟨gb335, 2, none⟩) (Kd.R_far (p := ⟨gb335, 1, none⟩) (Kd.R_far (p := ⟨gb335, 0, none⟩) (Kd.R_types HO_7.out BK335.out (by decide)) (fun _ hk => hk.2) (.string ((rd_T43 l0_1 x52_2).f0))) (fun _ hk => hk.2) (.int .i64 ((rd_T43 l0_1 x52_2).f1))) (fun _ hk => hk.2) (.slice A334_2 ((rd_T43 l0_1 x52_2).f2).length c334_2)) (fun _ hk => hk.2) (.int .i64 ((rd_T43 l0_1 x52_2).f3))) (fun _ hk => hk.2) (.int .i64 ((rd_T43 l0_1 x52_2).f4))) (fun _ hk => hk.2) (.int .i64 ((rd_T43 l0_1 x52_2).f5))) (fun _ hk => trivial)⟩
          have n1_ : Aside0 (Kd.R (Kd.int .i64) 3 ((((((w51.setCell ⟨gb335, 0, none⟩ (.string ((rd_T43 l0_1 x52_2).f0))).setCell ⟨gb335, 1, none⟩ (.int .i64 ((rd_T43 l0_1 x52_2).f1))).setCell ⟨gb335, 2, none⟩ (.slice A334_2 ((rd_T43 l0_1 x52_2).f2).length c334_2)).setCell ⟨gb335, 3, none⟩ (.int .i64 ((rd_T43 l0_1 x52_2).f3))).setCell ⟨gb335, 4, none⟩ (.int .i64 ((rd_T43 l0_1 x52_2).f4))).setCell ⟨gb335, 5, none⟩ (.int .i64 ((rd_T43 l0_1 x52_2).f5))) w.heap.size (fun _ => True) (.slice (some ad333) t319.length co11) t319) := ⟨by (with_reducible repeat (first | apply rA | apply rD | apply r1x)); exact Kd.R_mono (Kd.R_far (p := ⟨gb335, 5, none⟩) (Kd.R_far (p := ⟨gb335, 4, none⟩) (Kd.R_far (p := ⟨gb335, 3, none⟩) (Kd.R_far (p := ⟨gb335, 2, none⟩) (Kd.R_far (p := ⟨gb335, 1, none⟩) (Kd.R_far (p := ⟨gb335, 0, none⟩) (Kd.R_types HO_50.out BK335.out (by decide)) (fun _ hk => hk.2) (.string ((rd_T43 l0_1 x52_2).f0))) (fun _ hk => hk.2) (.int .i64 ((rd_T43 l0_1 x52_2).f1))) (fun _ hk => hk.2) (.slice A334_2 ((rd_T43 l0_1 x52_2).f2).length c334_2)) (fun _ hk => hk.2) (.int .i64 ((rd_T43 l0_1 x52_2).f3))) (fun _ hk => hk.2) (.int .i64 ((rd_T43 l0_1 x52_2).f4))) (fun _ hk => hk.2) (.int .i64 ((rd_T43 l0_1 x52_2).f5))) (fun _ hk => trivial)⟩
          have n2_ : Aside0 (Kd.R (Kd.int .i64) 3 ((((((w51.setCell ⟨gb335, 0, none⟩ (.string ((rd_T43 l0_1 x52_2).f0))).setCell ⟨gb335, 1, none⟩ (.int .i64 ((rd_T43 l0_1 x52_2).f1))).setCell ⟨gb335, 2, none⟩ (.slice A334_2 ((rd_T43 l0_1 x52_2).f2).length c334_2)).setCell ⟨gb335, 3, none⟩ (.int .i64 ((rd_T43 l0_1 x52_2).f3))).setCell ⟨gb335, 4, none⟩ (.int .i64 ((rd_T43 l0_1 x52_2).f4))).setCell ⟨gb335, 5, none⟩ (.int .i64 ((rd_T43 l0_1 x52_2).f5))) w.heap.size (fun _ => True) (.slice (some ad333) t319.length co11) t319) := ⟨by (with_reducible repeat (first | apply rA | apply rD | apply r1x)); exact Kd.R_mono (Kd.R_far (p := ⟨gb335, 5, none⟩) (Kd.R_far (p := ⟨gb335, 4, none⟩) (Kd.R_far (p := ⟨gb335, 3, none⟩) (Kd.R_far (p := ⟨gb335, 2, none⟩) (Kd.R_far (p := ⟨gb335, 1, none⟩) (Kd.R_far (p := ⟨gb335, 0, none⟩) (Kd.R_types HO_325002.out BK335.out (by decide)) (fun _ hk => hk.2) (.string ((rd_T43 l0_1 x52_2).f0))) (fun _ hk => hk.2) (.int .i64 ((rd_T43 l0_1 x52_2).f1))) (fun _ hk => hk.2) (.slice A334_2 ((rd_T43 l0_1 x52_2).f2).length c334_2)) (fun _ hk => hk.2) (.int .i64 ((rd_T43 l0_1 x52_2).f3))) (fun _ hk => hk.2) (.int .i64 ((rd_T43 l0_1 x52_2).f4))) (fun _ hk => hk.2) (.int .i64 ((rd_T43 l0_1 x52_2).f5))) (fun _ hk => trivial)⟩
          have n3_ : Aside0 (((((((w51.setCell ⟨gb335, 0, none⟩ (.string ((rd_T43 l0_1 x52_2).f0))).setCell ⟨gb335, 1, none⟩ (.int .i64 ((rd_T43 l0_1 x52_2).f1))).setCell ⟨gb335, 2, none⟩ (.slice A334_2 ((rd_T43 l0_1 x52_2).f2).length c334_2)).setCell ⟨gb335, 3, none⟩ (.int .i64 ((rd_T43 l0_1 x52_2).f3))).setCell ⟨gb335, 4, none⟩ (.int .i64 ((rd_T43 l0_1 x52_2).f4))).setCell ⟨gb335, 5, none⟩ (.int .i64 ((rd_T43 l0_1 x52_2).f5))).heap[gb316]? = some (.cells #[.slice A0_0 l0_0.length c0_0, .slice (some ad334) l0_1.length c0_1, .slice A0_2 l0_2.length c0_2, .int .i64 a0_3, .int .i64 a0_4] 26 (0, 0))) := ⟨by (with_reducible repeat (first | refine kD ?_ _ | refine k1_ ?_ | refine kA ?_ _)); refine kF ?_ NB316_335.out _; (with_reducible repeat (first | refine kD ?_ _ | refine k1_ ?_ | refine kA ?_ _)); refine kF ?_ NB316_335.out _; (with_reducible repeat (first | refine kD ?_ _ | refine k1_ ?_ | refine kA ?_ _)); refine kF ?_ NB316_335.out _; (with_reducible repeat (first | refine kD ?_ _ | refine k1_ ?_ | refine kA ?_ _)); refine kF ?_ NB316_335.out _; (with_reducible repeat (first | refine kD ?_ _ | refine k1_ ?_ | refine kA ?_ _)); refine kF ?_ NB316_335.out _; (with_reducible repeat (first | refine kD ?_ _ | refine k1_ ?_ | refine kA ?_ _)); refine kF ?_ NB316_335.out _; (with_reducible repeat (first | refine kD ?_ _ | refine k1_ ?_ | refine kA ?_ _)); exact BK316.out⟩
          have n4_ : Aside0 (((((((w51.setCell ⟨gb335, 0, none⟩ (.string ((rd_T43 l0_1 x52_2).f0))).setCell ⟨gb335, 1, none⟩ (.int .i64 ((rd_T43 l0_1 x52_2).f1))).setCell ⟨gb335, 2, none⟩ (.slice A334_2 ((rd_T43 l0_1 x52_2).f2).length c334_2)).setCell ⟨gb335, 3, none⟩ (.int .i64 ((rd_T43 l0_1 x52_2).f3))).setCell ⟨gb335, 4, none⟩ (.int .i64 ((rd_T43 l0_1 x52_2).f4))).setCell ⟨gb335, 5, none⟩ (.int .i64 ((rd_T43 l0_1 x52_2).f5))).heap[gb324]? = some (.cells #[.int .i64 t317, .int .i64 t318, .slice (some ad333) t319.length co11, .int .i64 t322] 39 (0, 0))) := ⟨by (with_reducible repeat (first | refine kD ?_ _ | refine k1_ ?_ | refine kA ?_ _)); refine kF ?_ NB324_335.out _; (with_reducible repeat (first | refine kD ?_ _ | refine k1_ ?_ | refine kA ?_ _)); refine kF ?_ NB324_335.out _; (with_reducible repeat (first | refine kD ?_ _ | refine k1_ ?_ | refine kA ?_ _)); refine kF ?_ NB324_335.out _; (with_reducible repeat (first | refine kD ?_ _ | refine k1_ ?_ | refine kA ?_ _)); refine kF ?_ NB324_335.out _; (with_reducible repeat (first | refine kD ?_ _ | refine k1_ ?_ | refine kA ?_ _)); refine kF ?_ NB324_335.out _; (with_reducible repeat (first | refine kD ?_ _ | refine k1_ ?_ | refine kA ?_ _)); refine kF ?_ NB324_335.out _; (with_reducible repeat (first | refine kD ?_ _ | refine k1_ ?_ | refine kA ?_ _)); exact BK324.out⟩
          have n5_ : Aside0 (((((((w51.setCell ⟨gb335, 0, none⟩ (.string ((rd_T43 l0_1 x52_2).f0))).setCell ⟨gb335, 1, none⟩ (.int .i64 ((rd_T43 l0_1 x52_2).f1))).setCell ⟨gb335, 2, none⟩ (.slice A334_2 ((rd_T43 l0_1 x52_2).f2).length c334_2)).setCell ⟨gb335, 3, none⟩ (.int .i64 ((rd_T43 l0_1 x52_2).f3))).setCell ⟨gb335, 4, none⟩ (.int .i64 ((rd_T43 l0_1 x52_2).f4))).setCell ⟨gb335, 5, none⟩ (.int .i64 ((rd_T43 l0_1 x52_2).f5))).heap[gb335]? = some (.cells #[.string ((rd_T43 l0_1 x52_2).f0), .int .i64 ((rd_T43 l0_1 x52_2).f1), .slice A334_2 ((rd_T43 l0_1 x52_2).f2).length c334_2, .int .i64 ((rd_T43 l0_1 x52_2).f3), .int .i64 ((rd_T43 l0_1 x52_2).f4), .int .i64 ((rd_T43 l0_1 x52_2).f5)] 49 (0, 0))) := ⟨by (with_reducible repeat (first | refine kD ?_ _ | refine k1_ ?_ | refine kA ?_ _)); refine kP (cs := #[.string ((rd_T43 l0_1 x52_2).f0), .int .i64 ((rd_T43 l0_1 x52_2).f1), .slice A334_2 ((rd_T43 l0_1 x52_2).f2).length c334_2, .int .i64 ((rd_T43 l0_1 x52_2).f3), .int .i64 ((rd_T43 l0_1 x52_2).f4), .int .i64 0]) ?_ 5 _ rfl; (with_reducible repeat (first | refine kD ?_ _ | refine k1_ ?_ | refine kA ?_ _)); refine kP (cs := #[.string ((rd_T43 l0_1 x52_2).f0), .int .i64 ((rd_T43 l0_1 x52_2).f1), .slice A334_2 ((rd_T43 l0_1 x52_2).f2).length c334_2, .int .i64 ((rd_T43 l0_1 x52_2).f3), .int .i64 0, .int .i64 0]) ?_ 4 _ rfl; (with_reducible repeat (first | refine kD ?_ _ | refine k1_ ?_ | refine kA ?_ _)); refine kP (cs := #[.string ((rd_T43 l0_1 x52_2).f0), .int .i64 ((rd_T43 l0_1 x52_2).f1), .slice A334_2 ((rd_T43 l0_1 x52_2).f2).length c334_2, .int .i64 0, .int .i64 0, .int .i64 0]) ?_ 3 _ rfl; (with_reducible repeat (first | refine kD ?_ _ | refine k1_ ?_ | refine kA ?_ _)); refine kP (cs := #[.string ((rd_T43 l0_1 x52_2).f0), .int .i64 ((rd_T43 l0_1 x52_2).f1), .slice none 0 0, .int .i64 0, .int .i64 0, .int .i64 0]) ?_ 2 _ rfl; (with_reducible repeat (first | refine kD ?_ _ | refine k1_ ?_ | refine kA ?_ _)); refine kP (cs := #[.string ((rd_T43 l0_1 x52_2).f0), .int .i64 0, .slice none 0 0, .int .i64 0, .int .i64 0, .int .i64 0]) ?_ 1 _ rfl; (with_reducible repeat (first | refine kD ?_ _ | refine k1_ ?_ | refine kA ?_ _)); refine kP (cs := #[.string (⟨#[]⟩ : ByteArray), .int .i64 0, .slice none 0 0, .int .i64 0, .int .i64 0, .int .i64 0]) ?_ 0 _ rfl; (with_reducible repeat (first | refine kD ?_ _ | refine k1_ ?_ | refine kA ?_ _)); exact BK335.out⟩
          have n6_ : Aside0 (Below w.heap.size w ((((((w51.setCell ⟨gb335, 0, none⟩ (.string ((rd_T43 l0_1 x52_2).f0))).setCell ⟨gb335, 1, none⟩ (.int .i64 ((rd_T43 l0_1 x52_2).f1))).setCell ⟨gb335, 2, none⟩ (.slice A334_2 ((rd_T43 l0_1 x52_2).f2).length c334_2)).setCell ⟨gb335, 3, none⟩ (.int .i64 ((rd_T43 l0_1 x52_2).f3))).setCell ⟨gb335, 4, none⟩ (.int .i64 ((rd_T43 l0_1 x52_2).f4))).setCell ⟨gb335, 5, none⟩ (.int .i64 ((rd_T43 l0_1 x52_2).f5)))) := ⟨by repeat (first | (with_reducible first | exact HB.out | apply bA | apply bD | apply b1 | refine bS ?_ GE316.out | refine bS ?_ GE324.out | refine bS ?_ GE335.out) | exact HB.out)⟩
          (try clear HO_7)
          (try clear HO_50)
          (try clear HO_325002)
          (try clear BK316)
          (try clear BK324)
          (try clear BK335)
          (try clear HB)
          generalize ((((((w51.setCell ⟨gb335, 0, none⟩ (.string ((rd_T43 l0_1 x52_2).f0))).setCell ⟨gb335, 1, none⟩ (.int .i64 ((rd_T43 l0_1 x52_2).f1))).setCell ⟨gb335, 2, none⟩ (.slice A334_2 ((rd_T43 l0_1 x52_2).f2).length c334_2)).setCell ⟨gb335, 3, none⟩ (.int .i64 ((rd_T43 l0_1 x52_2).f3))).setCell ⟨gb335, 4, none⟩ (.int .i64 ((rd_T43 l0_1 x52_2).f4))).setCell ⟨gb335, 5, none⟩ (.int .i64 ((rd_T43 l0_1 x52_2).f5))) = w55 at n0_ n1_ n2_ n3_ n4_ n5_ n6_ ⊢
          have HO_7 := n0_
          have HO_50 := n1_
          have HO_325002 := n2_
          have BK316 := n3_
          have BK324 := n4_
          have BK335 := n5_
          have HB := n6_
          clear n0_ n1_ n2_ n3_ n4_ n5_ n6_
          have n0_ := AM (r1x HO_7.out)
          have n1_ := AM (r1x HO_50.out)
          have n2_ := AM (r1x HO_325002.out)
          have n3_ := AM (k1_ BK316.out)
          have n4_ := AM (k1_ BK324.out)
          have n5_ := AM (k1_ BK335.out)
          have n6_ := AM (b1 HB.out)
          clear HO_7
          clear HO_50
          clear HO_325002
          clear BK316
          clear BK324
          clear BK335
          clear HB
          have HO_7 := n0_
          have HO_50 := n1_
          have HO_325002 := n2_
          have BK316 := n3_
          have BK324 := n4_
          have BK335 := n5_
          have HB := n6_
          clear n0_ n1_ n2_ n3_ n4_ n5_ n6_
          have p337 : 0 ≤ ((rd t319 x52_2) : Int) := of_decide_eq_true (by first | (with_reducible assumption) | assumption)
          have q337 : (rd t319 x52_2) < (((rd_T43 l0_1 x52_2).f2).length : Int) := of_decide_eq_true (by first | (with_reducible assumption) | assumption)
          obtain ⟨ad337, e337, hx337_0, hx337_1, hx337_2⟩ := at_T41 HR334_2.out (rd t319 x52_2) p337 q337
          have hw337_2 := hx337_2
          have hw337_1 := hx337_1
          have hw337_0 := hx337_0
          cases e337
          replace hx337_0 := (HB.out.cell (bL w _ hx337_0)).trans hx337_0
          replace hx337_1 := (HB.out.cell (bL w _ hx337_1)).trans hx337_1
          replace hx337_2 := (HB.out.cell (bL w _ hx337_2)).trans hx337_2
          replace p337 := eq_true p337
          replace q337 := eq_true q337
          refine start_ (n := 19) (S := fun w' => w'.cell? ⟨gb335, 0, none⟩ = some (.string ((rd_T43 l0_1 x52_2).f0)) ∧ w'.cell? ⟨gb335, 1, none⟩ = some (.int .i64 ((rd_T43 l0_1 x52_2).f1)) ∧ w'.cell? ⟨gb335, 2, none⟩ = some (.slice (some ad337) ((rd_T43 l0_1 x52_2).f2).length c334_2) ∧ w'.cell? ⟨gb335, 3, none⟩ = some (.int .i64 ((rd_T43 l0_1 x52_2).f3)) ∧ w'.cell? ⟨gb335, 4, none⟩ = some (.int .i64 ((rd_T43 l0_1 x52_2).f4)) ∧ w'.cell? ⟨gb335, 5, none⟩ = some (.int .i64 ((rd_T43 l0_1 x52_2).f5)) ∧ w'.cell? (ad337.add (((rd t319 x52_2)).toNat * 3)) = some (.int .i64 ((rd_T41 ((rd_T43 l0_1 x52_2).f2) (rd t319 x52_2)).f0)) ∧ w'.cell? ⟨(ad337.add (((rd t319 x52_2)).toNat * 3)).block, (ad337.add (((rd t319 x52_2)).toNat * 3)).off + 1, none⟩ = some (.int .i64 ((rd_T41 ((rd_T43 l0_1 x52_2).f2) (rd t319 x52_2)).f1)) ∧ w'.cell? ⟨(ad337.add (((rd t319 x52_2)).toNat * 3)).block, (ad337.add (((rd t319 x52_2)).toNat * 3)).off + 2, none⟩ = some (.int .i64 ((rd_T41 ((rd_T43 l0_1 x52_2).f2) (rd t319 x52_2)).f2))) (ds := []) #[false, false, false, false, false, false, false, false, false, false, false, false, false, false, false, false, false, false, false] (by kernel_rfl) rfl rfl ⟨(bC BK335.out 0).trans rfl, (bC BK335.out 1).trans rfl, (bC BK335.out 2).trans rfl, (bC BK335.out 3).trans rfl, (bC BK335.out 4).trans rfl, (bC BK335.out 5).trans rfl, ((HB.out.cell (bL w _ hw337_0)).trans hw337_0), ((HB.out.cell (bL w _ hw337_1)).trans hw337_1), ((HB.out.cell (bL w _ hw337_2)).trans hw337_2)⟩ (fun hHeld => ?_); refine with_tabW keep_Lines.tab12 keep_Lines.bits12 (fun HT_ HW_ => ?_)
          generalize w55.drew = w56 at HO_7 HO_50 HO_325002 BK316 BK324 BK335 HB hx337_0 hx337_1 hx337_2 hHeld ⊢
          refine pure_ (i := 0) (N := some 62) (v := ?_) (a' := ?_) #[true, false, false, false, false, false, false, false, false, false, false, false, false, false, false, false, false, false, false] rfl rfl (any_of HT_.out (by kernel_rfl)) (fun _ _ _ h => h) (Or.inl ⟨by rfl, ?_⟩) ?_ ?_
          rotate_left
          · intro w'
            go_simp
            with_reducible rfl
          rotate_left
          · simp only [Act.put, List.setIfInBounds_toArray, List.set_cons_zero, List.set_cons_succ, i64_w, i32_w]
            rfl
          refine pure_ (i := 1) (N := some 63) (v := ?_) (a' := ?_) #[true, true, false, false, false, false, false, false, false, false, false, false, false, false, false, false, false, false, false] rfl rfl (any_of HT_.out (by kernel_rfl)) (fun _ _ _ h => h) (Or.inl ⟨by rfl, ?_⟩) ?_ ?_
          rotate_left
          · intro w'
            go_simp
            with_reducible rfl
          rotate_left
          · simp only [Act.put, List.setIfInBounds_toArray, List.set_cons_zero, List.set_cons_succ, i64_w, i32_w]
            rfl
          refine pure_ (i := 4) (N := some 66) (v := ?_) (a' := ?_) #[true, true, false, false, true, false, false, false, false, false, false, false, false, false, false, false, false, false, false] rfl rfl (any_of HT_.out (by kernel_rfl)) (fun _ _ _ h => h) (Or.inl ⟨by rfl, ?_⟩) ?_ ?_
          rotate_left
          · intro w'
            go_simp
            with_reducible rfl
          rotate_left
          · simp only [Act.put, List.setIfInBounds_toArray, List.set_cons_zero, List.set_cons_succ, i64_w, i32_w]
            rfl
          refine pure_ (i := 8) (N := some 70) (v := ?_) (a' := ?_) #[true, true, false, false, true, false, false, false, true, false, false, false, false, false, false, false, false, false, false] rfl rfl (any_of HT_.out (by kernel_rfl)) (fun _ _ _ h => h) (Or.inl ⟨by rfl, ?_⟩) ?_ ?_
          rotate_left
          · intro w'
            go_simp
            with_reducible rfl
          rotate_left
          · simp only [Act.put, List.setIfInBounds_toArray, List.set_cons_zero, List.set_cons_succ, i64_w, i32_w]
            rfl
          refine pure_ (i := 10) (N := some 72) (v := ?_) (a' := ?_) #[true, true, false, false, true, false, false, false, true, false, true, false, false, false, false, false, false, false, false] rfl rfl (any_of HT_.out (by kernel_rfl)) (fun _ _ _ h => h) (Or.inl ⟨by rfl, ?_⟩) ?_ ?_
          rotate_left
          · intro w'
            go_simp
            with_reducible rfl
          rotate_left
          · simp only [Act.put, List.setIfInBounds_toArray, List.set_cons_zero, List.set_cons_succ, i64_w, i32_w]
            rfl
          refine take_ (i := 2) (N := some 64) (v := ?_) (a' := ?_) #[true, true, true, false, true, false, false, false, true, false, true, false, false, false, false, false, false, false, false] rfl rfl (take_ofW HT_.out HW_.out (by kernel_rfl)) (fun _ _ _ h => h) (Or.inl ⟨by rfl, ?_⟩) hHeld ?_ ?_
          rotate_left
          · rintro w' ⟨s0, s1, s2, s3, s4, s5, s6, s7, s8⟩
            go_simp
            with_reducible rfl
          rotate_left
          · simp only [Act.put, List.setIfInBounds_toArray, List.set_cons_zero, List.set_cons_succ, i64_w, i32_w]
            rfl
          refine pure_ (i := 3) (N := some 65) (v := ?_) (a' := ?_) #[true, true, true, true, true, false, false, false, true, false, true, false, false, false, false, false, false, false, false] rfl rfl (any_of HT_.out (by kernel_rfl)) (fun _ _ _ h => h) (Or.inl ⟨by rfl, ?_⟩) ?_ ?_
          rotate_left
          · intro w'
            go_simp
            with_reducible rfl
          rotate_left
          · simp only [Act.put, List.setIfInBounds_toArray, List.set_cons_zero, List.set_cons_succ, i64_w, i32_w]
            rfl
          refine take_ (i := 9) (N := some 71) (v := ?_) (a' := ?_) #[true, true, true, true, true, false, false, false, true, true, true, false, false, false, false, false, false, false, false] rfl rfl (take_ofW HT_.out HW_.out (by kernel_rfl)) (fun _ _ _ h => h) (Or.inl ⟨by rfl, ?_⟩) hHeld ?_ ?_
          rotate_left
          · rintro w' ⟨s0, s1, s2, s3, s4, s5, s6, s7, s8⟩
            go_simp
            with_reducible rfl
          rotate_left
          · simp only [Act.put, List.setIfInBounds_toArray, List.set_cons_zero, List.set_cons_succ, i64_w, i32_w]
            rfl
          refine pure_ (i := 11) (N := some 73) (v := ?_) (a' := ?_) #[true, true, true, true, true, false, false, false, true, true, true, true, false, false, false, false, false, false, false] rfl rfl (any_of HT_.out (by kernel_rfl)) (fun _ _ _ h => h) (Or.inl ⟨by rfl, ?_⟩) ?_ ?_
          rotate_left
          · intro w'
            go_simp
            with_reducible rfl
          rotate_left
          · simp only [Act.put, List.setIfInBounds_toArray, List.set_cons_zero, List.set_cons_succ, i64_w, i32_w]
            rfl
          refine pure_ (i := 12) (N := some 74) (v := ?_) (a' := ?_) #[true, true, true, true, true, false, false, false, true, true, true, true, true, false, false, false, false, false, false] rfl rfl (any_of HT_.out (by kernel_rfl)) (fun _ _ _ h => h) (Or.inl ⟨by rfl, ?_⟩) ?_ ?_
          rotate_left
          · intro w'
            go_simp
            with_reducible rfl
          rotate_left
          · simp only [Act.put, List.setIfInBounds_toArray, List.set_cons_zero, List.set_cons_succ, i64_w, i32_w]
            rfl
          refine take_ (i := 13) (N := some 75) (v := ?_) (a' := ?_) #[true, true, true, true, true, false, false, false, true, true, true, true, true, true, false, false, false, false, false] rfl rfl (take_ofW HT_.out HW_.out (by kernel_rfl)) (fun _ _ _ h => h) (Or.inl ⟨by rfl, ?_⟩) hHeld ?_ ?_
          rotate_left
          · rintro w' ⟨s0, s1, s2, s3, s4, s5, s6, s7, s8⟩
            go_simp
            with_reducible rfl
          rotate_left
          · simp only [Act.put, List.setIfInBounds_toArray, List.set_cons_zero, List.set_cons_succ, i64_w, i32_w]
            rfl
          refine one_ (i := 5) (N := some 67) #[true, true, true, true, true, true, false, false, true, true, true, true, true, true, false, false, false, false, false] rfl rfl (one_of HT_.out (by kernel_rfl)) (by decide) (fun K hK => ?_)
          refine goes_ Tryd.func19 (by kernel_rfl) rfl #[.int .i64 (rd t319 x52_2)] (by rfl) rfl rfl (by (try simp only [List.map_toArray, List.map_cons, List.map_nil]); first | done | rfl | (simp only [List.length_drop, List.length_take]; rfl)) ?_
          with_reducible refine (strconv_Itoa_19.calls (rd t319 x52_2) t336 _ (tQ htb) A41.out).mono ?_
          rintro e w57 ⟨rfl, hb⟩
          refine ⟨_, rfl, ?_⟩
          have n0_ := AM (Kd.R_below (by (with_reducible repeat (first | apply rA | apply rD | apply r1x)); exact HO_7.out) hb)
          have n1_ := AM (Kd.R_below (by (with_reducible repeat (first | apply rA | apply rD | apply r1x)); exact HO_50.out) hb)
          have n2_ := AM (Kd.R_below (by (with_reducible repeat (first | apply rA | apply rD | apply r1x)); exact HO_325002.out) hb)
          have n3_ := AM (kB (g := gb316) (o := .cells #[.slice A0_0 l0_0.length c0_0, .slice (some ad334) l0_1.length c0_1, .slice A0_2 l0_2.length c0_2, .int .i64 a0_3, .int .i64 a0_4] 26 (0, 0)) (kW BK316) hb)
          have n4_ := AM (kB (g := gb324) (o := .cells #[.int .i64 t317, .int .i64 t318, .slice (some ad333) t319.length co11, .int .i64 t322] 39 (0, 0)) (kW BK324) hb)
          have n5_ := AM (kB (g := gb335) (o := .cells #[.string ((rd_T43 l0_1 x52_2).f0), .int .i64 ((rd_T43 l0_1 x52_2).f1), .slice (some ad337) ((rd_T43 l0_1 x52_2).f2).length c334_2, .int .i64 ((rd_T43 l0_1 x52_2).f3), .int .i64 ((rd_T43 l0_1 x52_2).f4), .int .i64 ((rd_T43 l0_1 x52_2).f5)] 49 (0, 0)) (kW BK335) hb)
          have n6_ := AM (bT bQ hb)
          clear HO_7
          clear HO_50
          clear HO_325002
          clear BK316
          clear BK324
          clear BK335
          clear HB
          have HO_7 := n0_
          have HO_50 := n1_
          have HO_325002 := n2_
          have BK316 := n3_
          have BK324 := n4_
          have BK335 := n5_
          have HB := n6_
          clear n0_ n1_ n2_ n3_ n4_ n5_ n6_
          (try clear hb)
          (try clear hb2)
          (try clear hk)
          (try clear hi)
          refine hK.out _ _ ⟨(bC BK335.out 0).trans rfl, (bC BK335.out 1).trans rfl, (bC BK335.out 2).trans rfl, (bC BK335.out 3).trans rfl, (bC BK335.out 4).trans rfl, (bC BK335.out 5).trans rfl, ((HB.out.cell (bL w _ hw337_0)).trans hw337_0), ((HB.out.cell (bL w _ hw337_1)).trans hw337_1), ((HB.out.cell (bL w _ hw337_2)).trans hw337_2)⟩ (fun hHeld => ?_)
          clear hK K
          refine norm_ (a' := ?_) ?_ ?_
          rotate_left
          · show Act.put _ (some 67) _ = _
            simp only [Act.put, List.setIfInBounds_toArray, List.set_cons_zero, List.set_cons_succ, i64_w, i32_w]
            rfl
          refine pure_ (i := 6) (N := some 68) (v := ?_) (a' := ?_) #[true, true, true, true, true, true, true, false, true, true, true, true, true, true, false, false, false, false, false] rfl rfl (any_of HT_.out (by kernel_rfl)) (fun _ _ _ h => h) (Or.inl ⟨by rfl, ?_⟩) ?_ ?_
          rotate_left
          · intro w'
            go_simp
            with_reducible rfl
          rotate_left
          · simp only [Act.put, List.setIfInBounds_toArray, List.set_cons_zero, List.set_cons_succ, i64_w, i32_w]
            rfl
          refine pure_ (i := 7) (N := some 69) (v := ?_) (a' := ?_) #[true, true, true, true, true, true, true, true, true, true, true, true, true, true, false, false, false, false, false] rfl rfl (any_of HT_.out (by kernel_rfl)) (fun _ _ _ h => h) (Or.inl ⟨by rfl, ?_⟩) ?_ ?_
          rotate_left
          · intro w'
            go_simp
            with_reducible rfl
          rotate_left
          · simp only [Act.put, List.setIfInBounds_toArray, List.set_cons_zero, List.set_cons_succ, i64_w, i32_w]
            rfl
          refine one_ (i := 14) (N := some 76) #[true, true, true, true, true, true, true, true, true, true, true, true, true, true, true, false, false, false, false] rfl rfl (one_of HT_.out (by kernel_rfl)) (by decide) (fun K hK => ?_)
          refine goes_ Tryd.func19 (by kernel_rfl) rfl #[.int .i64 ((rd_T41 ((rd_T43 l0_1 x52_2).f2) (rd t319 x52_2)).f1)] (by rfl) rfl rfl (by (try simp only [List.map_toArray, List.map_cons, List.map_nil]); first | done | rfl | (simp only [List.length_drop, List.length_take]; rfl)) ?_
          with_reducible refine (strconv_Itoa_19.calls ((rd_T41 ((rd_T43 l0_1 x52_2).f2) (rd t319 x52_2)).f1) t338 _ (tQ htb) A46.out).mono ?_
          rintro e w58 ⟨rfl, hb⟩
          refine ⟨_, rfl, ?_⟩
          have n0_ := AM (Kd.R_below (by (with_reducible repeat (first | apply rA | apply rD | apply r1x)); exact HO_7.out) hb)
          have n1_ := AM (Kd.R_below (by (with_reducible repeat (first | apply rA | apply rD | apply r1x)); exact HO_50.out) hb)
          have n2_ := AM (Kd.R_below (by (with_reducible repeat (first | apply rA | apply rD | apply r1x)); exact HO_325002.out) hb)
          have n3_ := AM (kB (g := gb316) (o := .cells #[.slice A0_0 l0_0.length c0_0, .slice (some ad334) l0_1.length c0_1, .slice A0_2 l0_2.length c0_2, .int .i64 a0_3, .int .i64 a0_4] 26 (0, 0)) (kW BK316) hb)
          have n4_ := AM (kB (g := gb324) (o := .cells #[.int .i64 t317, .int .i64 t318, .slice (some ad333) t319.length co11, .int .i64 t322] 39 (0, 0)) (kW BK324) hb)
          have n5_ := AM (kB (g := gb335) (o := .cells #[.string ((rd_T43 l0_1 x52_2).f0), .int .i64 ((rd_T43 l0_1 x52_2).f1), .slice (some ad337) ((rd_T43 l0_1 x52_2).f2).length c334_2, .int .i64 ((rd_T43 l0_1 x52_2).f3), .int .i64 ((rd_T43 l0_1 x52_2).f4), .int .i64 ((rd_T43 l0_1 x52_2).f5)] 49 (0, 0)) (kW BK335) hb)
          have n6_ := AM (bT bQ hb)
          clear HO_7
          clear HO_50
          clear HO_325002
          clear BK316
          clear BK324
          clear BK335
          clear HB
          have HO_7 := n0_
          have HO_50 := n1_
          have HO_325002 := n2_
          have BK316 := n3_
          have BK324 := n4_
          have BK335 := n5_
          have HB := n6_
          clear n0_ n1_ n2_ n3_ n4_ n5_ n6_
          (try clear hb)
          (try clear hb2)
          (try clear hk)
          (try clear hi)
          refine hK.out _ _ ⟨(bC BK335.out 0).trans rfl, (bC BK335.out 1).trans rfl, (bC BK335.out 2).trans rfl, (bC BK335.out 3).trans rfl, (bC BK335.out 4).trans rfl, (bC BK335.out 5).trans rfl, ((HB.out.cell (bL w _ hw337_0)).trans hw337_0), ((HB.out.cell (bL w _ hw337_1)).trans hw337_1), ((HB.out.cell (bL w _ hw337_2)).trans hw337_2)⟩ (fun hHeld => ?_)
          clear hK K
          refine norm_ (a' := ?_) ?_ ?_
          rotate_left
          · show Act.put _ (some 76) _ = _
            simp only [Act.put, List.setIfInBounds_toArray, List.set_cons_zero, List.set_cons_succ, i64_w, i32_w]
            rfl
          refine pure_ (i := 15) (N := some 77) (v := ?_) (a' := ?_) #[true, true, true, true, true, true, true, true, true, true, true, true, true, true, true, true, false, false, false] rfl rfl (any_of HT_.out (by kernel_rfl)) (fun _ _ _ h => h) (Or.inl ⟨by rfl, ?_⟩) ?_ ?_
          rotate_left
          · intro w'
            go_simp
            with_reducible rfl
          rotate_left
          · simp only [Act.put, List.setIfInBounds_toArray, List.set_cons_zero, List.set_cons_succ, i64_w, i32_w]
            rfl
          refine one_ (i := 16) (N := some 78) #[true, true, true, true, true, true, true, true, true, true, true, true, true, true, true, true, true, false, false] rfl rfl (one_of HT_.out (by kernel_rfl)) (by decide) (fun K hK => ?_)
          refine value_ (w1 := ?_) (v := ?_) (by rfl) rfl ?_ ?_
          rotate_left 2
          · go_simp
            constructor
            · rfl
            · rfl
          refine hK.out _ _ ⟨(bC (kA BK335.out _) 0).trans rfl, (bC (kA BK335.out _) 1).trans rfl, (bC (kA BK335.out _) 2).trans rfl, (bC (kA BK335.out _) 3).trans rfl, (bC (kA BK335.out _) 4).trans rfl, (bC (kA BK335.out _) 5).trans rfl, (World.cell?_alloc_lt _ _ _ (bL _ _ (((HB.out.cell (bL w _ hw337_0)).trans hw337_0)))).trans (((HB.out.cell (bL w _ hw337_0)).trans hw337_0)), (World.cell?_alloc_lt _ _ _ (bL _ _ (((HB.out.cell (bL w _ hw337_1)).trans hw337_1)))).trans (((HB.out.cell (bL w _ hw337_1)).trans hw337_1)), (World.cell?_alloc_lt _ _ _ (bL _ _ (((HB.out.cell (bL w _ hw337_2)).trans hw337_2)))).trans (((HB.out.cell (bL w _ hw337_2)).trans hw337_2))⟩ (fun hHeld => ?_)
          clear hK K
          refine norm_ (a' := ?_) ?_ ?_
          rotate_left
          · show Act.put _ (some 78) _ = _
            simp only [Act.put, List.setIfInBounds_toArray, List.set_cons_zero, List.set_cons_succ, i64_w, i32_w]
            rfl
          refine one_ (i := 17) (N := some 79) #[true, true, true, true, true, true, true, true, true, true, true, true, true, true, true, true, true, true, false] rfl rfl (one_of HT_.out (by kernel_rfl)) (by decide) (fun K hK => ?_)
          refine Kd.R_append_step Kd.string (w0 := w) w.heap.size (by rfl) (.tmp 62) (.tmp 78) 34 9 (.string ⟨#[]⟩) 16 rfl Tryd.underlying34 info9 rfl (by decide) (by omega) u7 x7_2 ((((((rd_T43 l0_1 x52_2).f0) ++ (⟨#[32, 98, 97, 110, 100, 32]⟩ : ByteArray)) ++ t336) ++ (⟨#[32]⟩ : ByteArray)) ++ t338) [.string ((((((rd_T43 l0_1 x52_2).f0) ++ (⟨#[32, 98, 97, 110, 100, 32]⟩ : ByteArray)) ++ t336) ++ (⟨#[32]⟩ : ByteArray)) ++ t338)] (fun _ => True) (fun _ => False) rfl rfl ?aP (fun _ hk => hk.elim) ?aF ?aO ?aB ?aS ?aL ?_
          (case aP => exact rfl)
          (case aB => exact bQ)
          (case aF => exact (fun _ _ => trivial))
          (case aO => exact (by (with_reducible repeat (first | apply rA | apply rD | apply r1x)); exact HO_7.out))
          (case aS => exact (bZ bQ))
          (case aL => have := LMc48.out; omega)
          intro v340 w59 ho hb hg hat
          rw [← Ny339.out] at ho
          have n0_ := AM (Kd.R_over' (by (with_reducible repeat (first | apply rA | apply rD | apply r1x)); exact HO_50.out) (Kd.R_typed (by (with_reducible repeat (first | apply rA | apply rD | apply r1x)); exact HO_7.out)) (by decide) hg)
          have n1_ := AM (Kd.R_over' (by (with_reducible repeat (first | apply rA | apply rD | apply r1x)); exact HO_325002.out) (Kd.R_typed (by (with_reducible repeat (first | apply rA | apply rD | apply r1x)); exact HO_7.out)) (by decide) hg)
          have n2_ := AM (blk_grown (g := gb316) (o := .cells #[.slice A0_0 l0_0.length c0_0, .slice (some ad334) l0_1.length c0_1, .slice A0_2 l0_2.length c0_2, .int .i64 a0_3, .int .i64 a0_4] 26 (0, 0)) (kW BK316) hg (Kd.R_ne HO_7.out BK316.out (by decide)))
          have n3_ := AM (blk_grown (g := gb324) (o := .cells #[.int .i64 t317, .int .i64 t318, .slice (some ad333) t319.length co11, .int .i64 t322] 39 (0, 0)) (kW BK324) hg (Kd.R_ne HO_7.out BK324.out (by decide)))
          have n4_ := AM (blk_grown (g := gb335) (o := .cells #[.string ((rd_T43 l0_1 x52_2).f0), .int .i64 ((rd_T43 l0_1 x52_2).f1), .slice (some ad337) ((rd_T43 l0_1 x52_2).f2).length c334_2, .int .i64 ((rd_T43 l0_1 x52_2).f3), .int .i64 ((rd_T43 l0_1 x52_2).f4), .int .i64 ((rd_T43 l0_1 x52_2).f5)] 49 (0, 0)) (kW BK335) hg (Kd.R_ne HO_7.out BK335.out (by decide)))
          have n5_ := AM (hb)
          have n6_ := AM (ho)
          clear HO_50
          clear HO_325002
          clear BK316
          clear BK324
          clear BK335
          clear HB
          clear HO_7
          have HO_50 := n0_
          have HO_325002 := n1_
          have BK316 := n2_
          have BK324 := n3_
          have BK335 := n4_
          have HB := n5_
          have HO341 := n6_
          clear n0_ n1_ n2_ n3_ n4_ n5_ n6_
          clear ho hb hg hat
          refine hK.out _ _ ⟨(bC BK335.out 0).trans rfl, (bC BK335.out 1).trans rfl, (bC BK335.out 2).trans rfl, (bC BK335.out 3).trans rfl, (bC BK335.out 4).trans rfl, (bC BK335.out 5).trans rfl, ((HB.out.cell (bL w _ hw337_0)).trans hw337_0), ((HB.out.cell (bL w _ hw337_1)).trans hw337_1), ((HB.out.cell (bL w _ hw337_2)).trans hw337_2)⟩ (fun hHeld => ?_)
          clear hK K
          refine norm_ (a' := ?_) ?_ ?_
          rotate_left
          · show Act.put _ (some 79) _ = _
            simp only [Act.put, List.setIfInBounds_toArray, List.set_cons_zero, List.set_cons_succ, i64_w, i32_w]
            rfl
          refine pure_ (i := 18) (N := some 7) (v := ?_) (a' := ?_) #[true, true, true, true, true, true, true, true, true, true, true, true, true, true, true, true, true, true, true] rfl rfl (any_of HT_.out (by kernel_rfl)) (fun _ _ _ h => h) (Or.inl ⟨by rfl, ?_⟩) ?_ ?_
          rotate_left
          · intro w'
            go_simp
            with_reducible rfl
          rotate_left
          · simp only [Act.put, List.setIfInBounds_toArray, List.set_cons_zero, List.set_cons_succ, i64_w, i32_w]
            rfl
          refine done_ (done_of HT_.out (by kernel_rfl)) ?_
          try go_wp2
          go_roundg k2
          case measure => have := HJ3.out; have := HK2.out; omega
          case rel => exact ⟨(y339), (wrap64 (x52_2 + 1)), (by first | rfl | (simp; done) | (simp [*]; done)), H', ⟨by have := HJ3.out; have := HK2.out; omega⟩, ⟨by (with_reducible repeat (first | apply rA | apply rD | apply r1x)); exact HO341.out⟩, ⟨by (with_reducible repeat (first | apply rA | apply rD | apply r1x)); exact HO_50.out⟩, ⟨by (with_reducible repeat (first | apply rA | apply rD | apply r1x)); exact HO_325002.out⟩, ⟨by (with_reducible repeat (first | refine kD ?_ _ | refine k1_ ?_ | refine kA ?_ _)); exact BK316.out⟩, ⟨by (with_reducible repeat (first | refine kD ?_ _ | refine k1_ ?_ | refine kA ?_ _)); exact BK324.out⟩, ⟨by repeat (first | (with_reducible first | exact HB.out | apply bA | apply bD | apply b1 | refine bS ?_ GE316.out | refine bS ?_ GE324.out | refine bS ?_ GE335.out) | exact HB.out)⟩⟩
end Go.Proofs.YtdllkibfikcfbaaDoor.K
