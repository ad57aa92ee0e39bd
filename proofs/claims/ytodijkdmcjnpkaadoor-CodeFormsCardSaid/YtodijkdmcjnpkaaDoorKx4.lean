-- by a program of this session, over the kit's printer
import Derived.Test.YtodijkdmcjnpkaaDoorKx0
import Derived.Test.YtodijkdmcjnpkaaDoorKx2
import Derived.Test.YtodijkdmcjnpkaaDoorKx3
namespace Go.Proofs.YtodijkdmcjnpkaaDoor.K
open Go.RowKit Go.Proofs.YtodijkdmcjnpkaaDoorW.PrintWords Go.Proofs.YtodijkdmcjnpkaaDoorW.PrintLast Go.Proofs.YtodijkdmcjnpkaaDoorW.PrintMore
attribute [local go_sem] max2_int min2_int max_two min_two max_three min_three max_four min_four   -- for this text's walks alone
set_option linter.unusedVariables false
set_option linter.unusedSimpArgs false

/-! ### code_Parse: function 9 -/
mutual
def code_Parse.j0 : Nat → ByteArray → Bool → Int → Int → Int → Int → Bool → Option (Int × Int × Int × Int × Bool × Int)
  | 0, _, _, _, _, _, _, _ => none
  | k + 1, x0, x19, x109000, x109001, x109002, x109003, x109004 => if x19 = true then (if 0 < (x0.size : Int) then (if 1 ≤ (x0.size : Int) then (code_Parse.j1 k (x0.extract 1 x0.size) (((bt x0 0) - 79) % 256) x109001 x109002 x109003 x109004) else (none)) else (none)) else (code_Parse.j1 k x0 x109000 x109001 x109002 x109003 x109004)
def code_Parse.j1 : Nat → ByteArray → Int → Int → Int → Int → Bool → Option (Int × Int × Int × Int × Bool × Int)
  | 0, _, _, _, _, _, _ => none
  | k + 1, x0, x109000, x109001, x109002, x109003, x109004 => (strings_CutSuffix.f x0 (⟨#[88]⟩ : ByteArray)).bind fun bt109 => (if bt109.1.toList = ([78, 84] : List UInt8) then (code_Parse.j2 k true x109000 4 x109002 x109003 bt109.2) else ((strings_HasPrefix.f bt109.1 (⟨#[75]⟩ : ByteArray)).bind fun t111 => (if t111 = true then (if 1 ≤ (bt109.1.size : Int) then ((code_number.f k (bt109.1.extract 1 bt109.1.size)).bind fun bt112 => (code_Parse.j2 k bt112.2 x109000 2 (wrap64 (bt112.1 * 1000)) x109003 bt109.2)) else (none)) else ((strings_HasPrefix.f bt109.1 (⟨#[68]⟩ : ByteArray)).bind fun t114 => (if t114 = true then (if 1 ≤ (bt109.1.size : Int) then ((code_number.f k (bt109.1.extract 1 bt109.1.size)).bind fun bt115 => (code_Parse.j2 k bt115.2 x109000 3 x109002 bt115.1 bt109.2)) else (none)) else ((strings_HasSuffix.f bt109.1 (⟨#[76]⟩ : ByteArray)).bind fun t117 => (if t117 = true then (if 0 ≤ (wrap64 ((bt109.1.size : Int) - 1)) then (if (wrap64 ((bt109.1.size : Int) - 1)) ≤ (bt109.1.size : Int) then ((code_number.f k (bt109.1.extract 0 ((wrap64 ((bt109.1.size : Int) - 1)) : Int).toNat)).bind fun bt118 => (code_Parse.j2 k bt118.2 x109000 1 (wrap64 (bt118.1 * 1000)) x109003 bt109.2)) else (none)) else (none)) else (code_Parse.j2 k false x109000 x109001 x109002 x109003 bt109.2))))))))
def code_Parse.j2 : Nat → Bool → Int → Int → Int → Int → Bool → Option (Int × Int × Int × Int × Bool × Int)
  | 0, _, _, _, _, _, _ => none
  | k + 1, x6, x109000, x109001, x109002, x109003, x109004 => if x6 = true then ((code_Check.f k x109000 x109001 x109002 x109003 x109004).bind fun t120 => (if t120 = 0 then (some (x109000, x109001, x109002, x109003, x109004, 0)) else (some (0, 0, 0, 0, false, t120)))) else (some (0, 0, 0, 0, false, 5))
end
def code_Parse.f (k : Nat) (a0 : ByteArray) : Option (Int × Int × Int × Int × Bool × Int) := if a0.toList = ([] : List UInt8) then (code_Parse.j0 k a0 false 0 0 0 0 false) else (if 0 < (a0.size : Int) then (if (bt a0 0) ≥ 80 then (code_Parse.j0 k a0 (decide ((bt a0 0) ≤ 86)) 0 0 0 0 false) else (code_Parse.j0 k a0 false 0 0 0 0 false)) else (none))
def code_Parse.T3 : Bool × List (List Nat × List Nat) := (true, [([], []), ([0], [0]), ([1], [1]), ([2], [2]), ([], []), ([4], [4]), ([0, 1, 2, 3], []), ([6, 3, 0, 1, 2, 3], [3, 6]), ([5, 7, 0, 1, 2, 3, 4, 5, 6, 7], [0, 4, 5])])
def code_Parse.B3 : List Nat := [0, 1, 3, 7, 0, 16, 15, 79, 255]
theorem code_Parse.tab3 : rtab .any (opsOf Tryd.f9 3) = code_Parse.T3 := by kernel_rfl
theorem code_Parse.bits3 : waitsOk code_Parse.T3.2 code_Parse.B3 = true := by kernel_rfl
set_option maxHeartbeats 8000000 in
set_option maxRecDepth 100000 in
theorem code_Parse.calls (k : Nat) (a0 : ByteArray) (r1 : Int) (r2 : Int) (r3 : Int) (r4 : Int) (r5 : Bool) (r6 : Int) (w : World) (h : code_Parse.f k a0 = some (r1, r2, r3, r4, r5, r6)) :
    Calls Tryd.prog 9 #[.string a0] w fun e w' => e = .returned (.tuple #[.agg #[.int .i64 r1, .int .i64 r2, .int .i64 r3, .int .i64 r4, .bool r5], .int .i64 r6]) ∧ Below w.heap.size w w' := by
  have hu23 := Tryd.underlying23
  have HB := AM (Below.refl w.heap.size w)
  have H : (if a0.toList = ([] : List UInt8) then (code_Parse.j0 k a0 false 0 0 0 0 false) else (if 0 < (a0.size : Int) then (if (bt a0 0) ≥ 80 then (code_Parse.j0 k a0 (decide ((bt a0 0) ≤ 86)) 0 0 0 0 false) else (code_Parse.j0 k a0 false 0 0 0 0 false)) else (none))) = some (r1, r2, r3, r4, r5, r6) := h
  clear h
  have HC2 := AM H
  clear H
  go_enter Tryd.func9, Tryd.ntmps9
  go_upto_region 2 with (first | ((with_reducible refine gD (N := 2) rfl ?_); refine bE ?hg (N := 2) ?hd (cs := #[.int .i64 0, .int .i64 0, .int .i64 0, .int .i64 0, .bool false]) (t := 23) ?hr ?_; (case hd => rfl); (case hg => rfl); (case hr => first | (go_simp; done) | (go_simp; rfl)); intro gb107 hg w3 hbox hb; have n0_ := AM (bT bQ hb); have n1_ := AM (hbox); have n2_ := AM ((by rw [hg]; exact (bZ bQ) : w.heap.size ≤ gb107)); have n3_ := AM ((by rw [hg]; exact (bZ bQ) : w.heap.size ≤ gb107)); clear HB; have HB := n0_; have BK107 := n1_; have GW107 := n2_; have GE107 := n3_; clear n0_ n1_ n2_ n3_; clear hb hbox hg) | ((with_reducible refine gD (N := 4) rfl ?_); refine bE ?hg (N := 4) ?hd (cs := #[.int .i64 0, .int .i64 0, .int .i64 0, .int .i64 0, .bool false]) (t := 23) ?hr ?_; (case hd => rfl); (case hg => rfl); (case hr => first | (go_simp; done) | (go_simp; rfl)); intro gb108 hg w4 hbox hb; have n0_ := AM (kB (g := gb107) (o := .cells #[.int .i64 0, .int .i64 0, .int .i64 0, .int .i64 0, .bool false] 23 (0, 0)) (kW BK107) hb); have n1_ := AM (bT bQ hb); have n2_ := AM (hbox); have n3_ := AM ((by rw [hg]; exact (bZ bQ) : w.heap.size ≤ gb108)); have n4_ := AM ((by rw [hg]; exact (bZ bQ) : w.heap.size ≤ gb108)); have n5_ := AM ((by rw [hg]; exact Nat.ne_of_lt (blk_lt (g := gb107) (o := .cells #[.int .i64 0, .int .i64 0, .int .i64 0, .int .i64 0, .bool false] 23 (0, 0)) (kW BK107)) : gb107 ≠ gb108)); have n6_ := AM ((by rw [hg]; exact Nat.ne_of_gt (blk_lt (g := gb107) (o := .cells #[.int .i64 0, .int .i64 0, .int .i64 0, .int .i64 0, .bool false] 23 (0, 0)) (kW BK107)) : gb108 ≠ gb107)); clear BK107; clear HB; have BK107 := n0_; have HB := n1_; have BK108 := n2_; have GW108 := n3_; have GE108 := n4_; have NB107_108 := n5_; have NB108_107 := n6_; clear n0_ n1_ n2_ n3_ n4_ n5_ n6_; clear hb hbox hg))
  (try simp only [Act.put, List.setIfInBounds_toArray, List.set_cons_zero, List.set_cons_succ])
  go_cut [19] (fun v19 wc => ∃ (kq : Nat) (x19_1 : Bool), v19 = .bool x19_1 ∧ Aside0 (code_Parse.j0 kq a0 x19_1 0 0 0 0 false = some (r1, r2, r3, r4, r5, r6)) ∧ Aside0 (kq ≤ k) ∧ Aside0 (wc.heap[gb107]? = some (.cells #[.int .i64 0, .int .i64 0, .int .i64 0, .int .i64 0, .bool false] 23 (0, 0))) ∧ Aside0 (wc.heap[gb108]? = some (.cells #[.int .i64 0, .int .i64 0, .int .i64 0, .int .i64 0, .bool false] 23 (0, 0))) ∧ Aside0 (Below w.heap.size w wc))
  case first =>
    have H := HC2.out
    clear HC2
    by_cases c5 : a0.toList = ([] : List UInt8)
    · rw [if_pos c5] at H
      have c5b0 : (a0.toList == ([] : List UInt8)) = true := beq_iff_eq.mpr c5
      have c5b1 : (a0.toList != ([] : List UInt8)) = false := bne_eq_false_iff_eq.mpr c5
      clear c5
      (first | rw [c5b0] | (simp only [i64_w, i32_w]; rw [c5b0]) | skip)
      have H' := AM H
      clear H
      go_wp2
      go_meet
      case rel => exact ⟨_, (false), (by first | rfl | (simp; done) | (simp [*]; done)), H', ⟨by first | omega | exact Nat.le_refl _⟩, ⟨by (with_reducible repeat (first | refine kD ?_ _ | refine k1_ ?_ | refine kA ?_ _)); exact BK107.out⟩, ⟨by (with_reducible repeat (first | refine kD ?_ _ | refine k1_ ?_ | refine kA ?_ _)); exact BK108.out⟩, ⟨by repeat (first | (with_reducible first | exact HB.out | apply bA | apply bD | apply b1 | refine bS ?_ GE107.out | refine bS ?_ GE108.out) | exact HB.out)⟩⟩
    rw [if_neg c5] at H
    have c5b0 : (a0.toList == ([] : List UInt8)) = false := beq_eq_false_iff_ne.mpr c5
    have c5b1 : (a0.toList != ([] : List UInt8)) = true := bne_iff_ne.mpr c5
    (first | rw [c5b0] | (simp only [i64_w, i32_w]; rw [c5b0]) | skip)
    by_cases c6 : 0 < (a0.size : Int)
    rotate_left
    · rw [if_neg c6] at H
      exact absurd H (by simp)
    rw [if_pos c6] at H
    have c6b0 := decide_eq_true c6
    have c6b1 : decide (0 < a0.size) = true := decide_eq_true (by omega)
    clear c6
    by_cases c8 : (bt a0 0) ≥ 80
    rotate_left
    · rw [if_neg c8] at H
      have c8b0 : decide (80 ≤ (bt a0 0)) = false := decide_eq_false c8
      clear c8
      have H' := AM H
      clear H
      have p7 : 0 ≤ (0 : Int) := (by omega)
      have q7 : 0 < a0.size := (by have : (0 : Int) < (a0.size : Int) := of_decide_eq_true (by first | (with_reducible assumption) | assumption); omega)
      have hx7 : ∀ h : 0 < a0.size, ((a0[0]'h).toNat : Int) = bt a0 0 := bt_at a0 0
      clear p7
      have qi7 : (0 < (a0.size : Int)) = True := eq_true (of_decide_eq_true (by first | (with_reducible assumption) | assumption))
      replace q7 := eq_true q7
      go_wp2
      go_meet
      case rel => exact ⟨_, (false), (by first | rfl | (simp; done) | (simp [*]; done)), H', ⟨by first | omega | exact Nat.le_refl _⟩, ⟨by (with_reducible repeat (first | refine kD ?_ _ | refine k1_ ?_ | refine kA ?_ _)); exact BK107.out⟩, ⟨by (with_reducible repeat (first | refine kD ?_ _ | refine k1_ ?_ | refine kA ?_ _)); exact BK108.out⟩, ⟨by repeat (first | (with_reducible first | exact HB.out | apply bA | apply bD | apply b1 | refine bS ?_ GE107.out | refine bS ?_ GE108.out) | exact HB.out)⟩⟩
    rw [if_pos c8] at H
    have c8b0 : decide (80 ≤ (bt a0 0)) = true := decide_eq_true c8
    clear c8
    have H' := AM H
    clear H
    have p7 : 0 ≤ (0 : Int) := (by omega)
    have q7 : 0 < a0.size := (by have : (0 : Int) < (a0.size : Int) := of_decide_eq_true (by first | (with_reducible assumption) | assumption); omega)
    have hx7 : ∀ h : 0 < a0.size, ((a0[0]'h).toNat : Int) = bt a0 0 := bt_at a0 0
    clear p7
    have qi7 : (0 < (a0.size : Int)) = True := eq_true (of_decide_eq_true (by first | (with_reducible assumption) | assumption))
    replace q7 := eq_true q7
    have p9 : 0 ≤ (0 : Int) := (by omega)
    have q9 : 0 < a0.size := (by have : (0 : Int) < (a0.size : Int) := of_decide_eq_true (by first | (with_reducible assumption) | assumption); omega)
    have hx9 : ∀ h : 0 < a0.size, ((a0[0]'h).toNat : Int) = bt a0 0 := bt_at a0 0
    clear p9
    have qi9 : (0 < (a0.size : Int)) = True := eq_true (of_decide_eq_true (by first | (with_reducible assumption) | assumption))
    replace q9 := eq_true q9
    go_wp2
    go_meet
    case rel => exact ⟨_, (decide ((bt a0 0) ≤ 86)), (by first | rfl | (simp; done) | (simp [*]; done)), H', ⟨by first | omega | exact Nat.le_refl _⟩, ⟨by (with_reducible repeat (first | refine kD ?_ _ | refine k1_ ?_ | refine kA ?_ _)); exact BK107.out⟩, ⟨by (with_reducible repeat (first | refine kD ?_ _ | refine k1_ ?_ | refine kA ?_ _)); exact BK108.out⟩, ⟨by repeat (first | (with_reducible first | exact HB.out | apply bA | apply bD | apply b1 | refine bS ?_ GE107.out | refine bS ?_ GE108.out) | exact HB.out)⟩⟩
  case rest =>
    clear HC2
    obtain ⟨kq, x19_1, rfl, HA, HJ1, BK107, BK108, HB⟩ := hcut
    cases kq with
    | zero => exact absurd HA.out (by simp [code_Parse.j0])
    | succ kj1 =>
      have H := HA.out
      clear HA
      simp only [code_Parse.j0] at H
      have HC10 := AM H
      clear H
      go_upto_if 19 with (fail)
      go_cut [0] (fun v0 wc => ∃ (kq : Nat) (x0_9 : ByteArray) (x109000_9 : Int), v0 = .string x0_9 ∧ Aside0 (code_Parse.j1 kq x0_9 x109000_9 0 0 0 false = some (r1, r2, r3, r4, r5, r6)) ∧ Aside0 (kq ≤ kj1) ∧ Aside0 (wc.heap[gb107]? = some (.cells #[.int .i64 0, .int .i64 0, .int .i64 0, .int .i64 0, .bool false] 23 (0, 0))) ∧ Aside0 (wc.heap[gb108]? = some (.cells #[.int .i64 x109000_9, .int .i64 0, .int .i64 0, .int .i64 0, .bool false] 23 (0, 0))) ∧ Aside0 (Below w.heap.size w wc))
      case first =>
        have H := HC10.out
        clear HC10
        by_cases c11 : x19_1 = true
        rotate_left
        · replace c11 := Bool.eq_false_iff.mpr c11
          subst c11
          have H1 : (code_Parse.j1 kj1 a0 0 0 0 0 false) = some (r1, r2, r3, r4, r5, r6) := by rw [if_neg (show ¬ (false = true) by decide)] at H; exact H
          clear H
          have H := H1
          clear H1
          have H' := AM H
          clear H
          go_wp2
          go_meet
          case rel => exact ⟨_, (a0), (0), (by first | rfl | (simp; done) | (simp [*]; done)), H', ⟨by have := HJ1.out; first | omega | exact Nat.le_refl _⟩, ⟨by (with_reducible repeat (first | refine kD ?_ _ | refine k1_ ?_ | refine kA ?_ _)); exact BK107.out⟩, ⟨by (with_reducible repeat (first | refine kD ?_ _ | refine k1_ ?_ | refine kA ?_ _)); exact BK108.out⟩, ⟨by repeat (first | (with_reducible first | exact HB.out | apply bA | apply bD | apply b1 | refine bS ?_ GE107.out | refine bS ?_ GE108.out) | exact HB.out)⟩⟩
        subst c11
        have H1 : (if 0 < (a0.size : Int) then (if 1 ≤ (a0.size : Int) then (code_Parse.j1 kj1 (a0.extract 1 a0.size) (((bt a0 0) - 79) % 256) 0 0 0 false) else (none)) else (none)) = some (r1, r2, r3, r4, r5, r6) := by rw [if_pos rfl] at H; exact H
        clear H
        have H := H1
        clear H1
        by_cases c12 : 0 < (a0.size : Int)
        rotate_left
        · rw [if_neg c12] at H
          exact absurd H (by simp)
        rw [if_pos c12] at H
        have c12b0 := decide_eq_true c12
        have c12b1 : decide (0 < a0.size) = true := decide_eq_true (by omega)
        clear c12
        (first | rw [c12b0] | (simp only [i64_w, i32_w]; rw [c12b0]) | skip)
        by_cases c14 : 1 ≤ (a0.size : Int)
        rotate_left
        · rw [if_neg c14] at H
          exact absurd H (by simp)
        rw [if_pos c14] at H
        have c14b0 := eq_true c14
        have c14b1 : decide (1 ≤ (a0.size : Int)) = true := decide_eq_true c14
        clear c14
        have H' := AM H
        clear H
        try go_wp2
        have n0_ := AM (k1_ BK107.out)
        have n1_ := AM (k1_ BK108.out)
        have n2_ := AM (b1 HB.out)
        clear BK107
        clear BK108
        clear HB
        have BK107 := n0_
        have BK108 := n1_
        have HB := n2_
        clear n0_ n1_ n2_
        have p13 : 0 ≤ (0 : Int) := (by omega)
        have q13 : 0 < a0.size := (by have : (0 : Int) < (a0.size : Int) := of_decide_eq_true (by first | (with_reducible assumption) | assumption); omega)
        have hx13 : ∀ h : 0 < a0.size, ((a0[0]'h).toNat : Int) = bt a0 0 := bt_at a0 0
        clear p13
        have qi13 : (0 < (a0.size : Int)) = True := eq_true (of_decide_eq_true (by first | (with_reducible assumption) | assumption))
        replace q13 := eq_true q13
        refine start_ (n := 9) (S := fun w' => True) (ds := []) #[false, false, false, false, false, false, false, false, false] (by kernel_rfl) rfl rfl trivial (fun hHeld => ?_); refine with_tabW code_Parse.tab3 code_Parse.bits3 (fun HT_ HW_ => ?_)
        generalize wc.drew = w15 at BK107 BK108 HB hHeld ⊢
        refine pure_ (i := 0) (N := some 20) (v := ?_) (a' := ?_) #[true, false, false, false, false, false, false, false, false] rfl rfl (any_of HT_.out (by kernel_rfl)) (fun _ _ _ h => h) (Or.inl ⟨by rfl, ?_⟩) ?_ ?_
        rotate_left
        · intro w'
          go_simp
          with_reducible rfl
        rotate_left
        · simp only [Act.put, List.setIfInBounds_toArray, List.set_cons_zero, List.set_cons_succ, i64_w, i32_w]
          rfl
        refine pure_ (i := 4) (N := some 24) (v := ?_) (a' := ?_) #[true, false, false, false, true, false, false, false, false] rfl rfl (any_of HT_.out (by kernel_rfl)) (fun _ _ _ h => h) (Or.inl ⟨by rfl, ?_⟩) ?_ ?_
        rotate_left
        · intro w'
          go_simp
          with_reducible rfl
        rotate_left
        · simp only [Act.put, List.setIfInBounds_toArray, List.set_cons_zero, List.set_cons_succ, i64_w, i32_w]
          rfl
        refine pure_ (i := 5) (N := some 25) (v := ?_) (a' := ?_) #[true, false, false, false, true, true, false, false, false] rfl rfl (any_of HT_.out (by kernel_rfl)) (fun _ _ _ h => h) (Or.inl ⟨by rfl, ?_⟩) ?_ ?_
        rotate_left
        · intro w'
          go_simp
          with_reducible rfl
        rotate_left
        · simp only [Act.put, List.setIfInBounds_toArray, List.set_cons_zero, List.set_cons_succ, i64_w, i32_w]
          rfl
        refine take_ (i := 1) (N := some 21) (v := ?_) (a' := ?_) #[true, true, false, false, true, true, false, false, false] rfl rfl (take_ofW HT_.out HW_.out (by kernel_rfl)) (fun _ _ _ h => h) (Or.inl ⟨by rfl, ?_⟩) hHeld ?_ ?_
        rotate_left
        · intro w' _
          go_simp
          with_reducible rfl
        rotate_left
        · simp only [Act.put, List.setIfInBounds_toArray, List.set_cons_zero, List.set_cons_succ, i64_w, i32_w]
          rfl
        refine pure_ (i := 2) (N := some 22) (v := ?_) (a' := ?_) #[true, true, true, false, true, true, false, false, false] rfl rfl (any_of HT_.out (by kernel_rfl)) (fun _ _ _ h => h) (Or.inl ⟨by rfl, ?_⟩) ?_ ?_
        rotate_left
        · intro w'
          go_simp
          with_reducible rfl
        rotate_left
        · simp only [Act.put, List.setIfInBounds_toArray, List.set_cons_zero, List.set_cons_succ, i64_w, i32_w]
          rfl
        refine pure_ (i := 3) (N := some 23) (v := ?_) (a' := ?_) #[true, true, true, true, true, true, false, false, false] rfl rfl (any_of HT_.out (by kernel_rfl)) (fun _ _ _ h => h) (Or.inl ⟨by rfl, ?_⟩) ?_ ?_
        rotate_left
        · intro w'
          go_simp
          with_reducible rfl
        rotate_left
        · simp only [Act.put, List.setIfInBounds_toArray, List.set_cons_zero, List.set_cons_succ, i64_w, i32_w]
          rfl
        refine pure_ (i := 6) (N := some 26) (v := ?_) (a' := ?_) #[true, true, true, true, true, true, true, false, false] rfl rfl (any_of HT_.out (by kernel_rfl)) (fun _ _ _ h => h) (Or.inl ⟨by rfl, ?_⟩) ?_ ?_
        rotate_left
        · intro w'
          go_simp
          with_reducible rfl
        rotate_left
        · simp only [Act.put, List.setIfInBounds_toArray, List.set_cons_zero, List.set_cons_succ, i64_w, i32_w]
          rfl
        refine one_ (i := 7) (N := none) #[true, true, true, true, true, true, true, true, false] rfl rfl (one_of HT_.out (by kernel_rfl)) (by decide) (fun K hK => ?_)
        have hs16 : w15.cell? ⟨gb108, 0, none⟩ = some (.int .i64 0) := (bC BK108.out 0).trans rfl
        have hfs16 := bF BK108.out 0
        have hns16_0 := NB107_108.out
        have hms16_0 := NB108_107.out
        refine skip_ (w1 := ?_) (by rfl) rfl ?_ ?_
        rotate_left
        · go_simp
          rfl
        refine hK.out _ _ trivial (fun hHeld => ?_)
        clear hK K
        refine pure_ (i := 8) (N := some 0) (v := ?_) (a' := ?_) #[true, true, true, true, true, true, true, true, true] rfl rfl (any_of HT_.out (by kernel_rfl)) (fun _ _ _ h => h) (Or.inl ⟨by rfl, ?_⟩) ?_ ?_
        rotate_left
        · intro w'
          go_simp
          with_reducible rfl
        rotate_left
        · simp only [Act.put, List.setIfInBounds_toArray, List.set_cons_zero, List.set_cons_succ, i64_w, i32_w]
          rfl
        refine done_ (done_of HT_.out (by kernel_rfl)) ?_
        try go_wp2
        go_meet
        case rel => exact ⟨_, (a0.extract 1 a0.size), (((bt a0 0) - 79) % 256), (by first | rfl | (simp; done) | (simp [*]; done)), H', ⟨by have := HJ1.out; first | omega | exact Nat.le_refl _⟩, ⟨by (with_reducible repeat (first | refine kD ?_ _ | refine k1_ ?_ | refine kA ?_ _)); refine kF ?_ NB107_108.out _; (with_reducible repeat (first | refine kD ?_ _ | refine k1_ ?_ | refine kA ?_ _)); exact BK107.out⟩, ⟨by (with_reducible repeat (first | refine kD ?_ _ | refine k1_ ?_ | refine kA ?_ _)); refine kP (cs := #[.int .i64 0, .int .i64 0, .int .i64 0, .int .i64 0, .bool false]) ?_ 0 _ (by first | rfl | (simp only [u8w]; rfl)); (with_reducible repeat (first | refine kD ?_ _ | refine k1_ ?_ | refine kA ?_ _)); exact BK108.out⟩, ⟨by repeat (first | (with_reducible first | exact HB.out | apply bA | apply bD | apply b1 | refine bS ?_ GE107.out | refine bS ?_ GE108.out) | exact HB.out)⟩⟩
      case rest =>
        clear HC10
        obtain ⟨kq, x0_9, x109000_9, rfl, HA, HJ9, BK107, BK108, HB⟩ := hcut
        cases kq with
        | zero => exact absurd HA.out (by simp [code_Parse.j1])
        | succ kj9 =>
          have H := HA.out
          clear HA
          simp only [code_Parse.j1] at H
          replace H := Option.bind_eq_some_iff.mp H
          obtain ⟨⟨t109, t110⟩, A170, H⟩ := H
          replace H : (if t109.toList = ([78, 84] : List UInt8) then (code_Parse.j2 kj9 true x109000_9 4 0 0 t110) else ((strings_HasPrefix.f t109 (⟨#[75]⟩ : ByteArray)).bind fun t111 => (if t111 = true then (if 1 ≤ (t109.size : Int) then ((code_number.f kj9 (t109.extract 1 t109.size)).bind fun bt112 => (code_Parse.j2 kj9 bt112.2 x109000_9 2 (wrap64 (bt112.1 * 1000)) 0 t110)) else (none)) else ((strings_HasPrefix.f t109 (⟨#[68]⟩ : ByteArray)).bind fun t114 => (if t114 = true then (if 1 ≤ (t109.size : Int) then ((code_number.f kj9 (t109.extract 1 t109.size)).bind fun bt115 => (code_Parse.j2 kj9 bt115.2 x109000_9 3 0 bt115.1 t110)) else (none)) else ((strings_HasSuffix.f t109 (⟨#[76]⟩ : ByteArray)).bind fun t117 => (if t117 = true then (if 0 ≤ (wrap64 ((t109.size : Int) - 1)) then (if (wrap64 ((t109.size : Int) - 1)) ≤ (t109.size : Int) then ((code_number.f kj9 (t109.extract 0 ((wrap64 ((t109.size : Int) - 1)) : Int).toNat)).bind fun bt118 => (code_Parse.j2 kj9 bt118.2 x109000_9 1 (wrap64 (bt118.1 * 1000)) 0 t110)) else (none)) else (none)) else (code_Parse.j2 kj9 false x109000_9 0 0 0 t110)))))))) = some (r1, r2, r3, r4, r5, r6) := H
          have A17 := AM A170
          clear A170
          have HC18 := AM H
          clear H
          go_upto_block 0 with (first | ((with_reducible refine gC (f := 19) rfl ?_); refine gL (some 29) rfl rfl Tryd.func19 (by kernel_rfl) rfl #[.string x0_9, .string (⟨#[88]⟩ : ByteArray)] rfl (by (try simp only [List.map_toArray, List.map_cons, List.map_nil]); first | done | rfl | (simp only [List.length_drop, List.length_take]; rfl)) ?_; (with_reducible refine (strings_CutSuffix.calls x0_9 (⟨#[88]⟩ : ByteArray) t109 t110 _ A17.out).mono ?_); rintro e w' ⟨rfl, ⟨nd, rfl⟩⟩; refine ⟨_, rfl, ?_⟩; (try (rw [drewN_self wc]; generalize hq_ : World.drewN wc _ = wc; have n0_ : Aside0 (wc.heap[gb107]? = some (.cells #[.int .i64 0, .int .i64 0, .int .i64 0, .int .i64 0, .bool false] 23 (0, 0))) := ⟨by rw [← hq_]; exact (kW BK107)⟩; have n1_ : Aside0 (wc.heap[gb108]? = some (.cells #[.int .i64 x109000_9, .int .i64 0, .int .i64 0, .int .i64 0, .bool false] 23 (0, 0))) := ⟨by rw [← hq_]; exact (kW BK108)⟩; have n2_ : Aside0 (Below w.heap.size w wc) := ⟨by rw [← hq_]; exact bQ⟩; clear BK107 BK108 HB hq_; have BK107 := n0_; have BK108 := n1_; have HB := n2_; clear n0_ n1_ n2_)); have hnb19 := NB108_107.out; have hnc19 := NB107_108.out; obtain ⟨_, _, _, _, _, _, _, _, _, _⟩ := bX5 BK108.out))
          (try simp only [Act.put, List.setIfInBounds_toArray, List.set_cons_zero, List.set_cons_succ])
          go_cut [6] (fun v6 wc => ∃ (kq : Nat) (x6_17 : Bool) (x109001_17 : Int) (x109002_17 : Int) (x109003_17 : Int), v6 = .bool x6_17 ∧ Aside0 (code_Parse.j2 kq x6_17 x109000_9 x109001_17 x109002_17 x109003_17 t110 = some (r1, r2, r3, r4, r5, r6)) ∧ Aside0 (kq ≤ kj9) ∧ Aside0 (wc.heap[gb107]? = some (.cells #[.int .i64 0, .int .i64 0, .int .i64 0, .int .i64 0, .bool false] 23 (0, 0))) ∧ Aside0 (wc.heap[gb108]? = some (.cells #[.int .i64 x109000_9, .int .i64 x109001_17, .int .i64 x109002_17, .int .i64 x109003_17, .bool t110] 23 (0, 0))) ∧ Aside0 (Below w.heap.size w wc))
          case first =>
            have H := HC18.out
            clear HC18
            by_cases c21 : t109.toList = ([78, 84] : List UInt8)
            · rw [if_pos c21] at H
              have c21b0 : (t109.toList == ([78, 84] : List UInt8)) = true := beq_iff_eq.mpr c21
              have c21b1 : (t109.toList != ([78, 84] : List UInt8)) = false := bne_eq_false_iff_eq.mpr c21
              clear c21
              (first | rw [c21b0] | (simp only [i64_w, i32_w]; rw [c21b0]) | skip)
              have H' := AM H
              clear H
              have hnb22 := NB108_107.out
              have hnc22 := NB107_108.out
              obtain ⟨_, _, _, _, _, _, _, _, _, _⟩ := bX5 BK108.out
              go_wp2
              go_meet
              case rel => exact ⟨_, (true), (4), (0), (0), (by first | rfl | (simp; done) | (simp [*]; done)), H', ⟨by have := HJ1.out; have := HJ9.out; first | omega | exact Nat.le_refl _⟩, ⟨by (with_reducible repeat (first | refine kD ?_ _ | refine k1_ ?_ | refine kA ?_ _)); refine kF ?_ NB107_108.out _; (with_reducible repeat (first | refine kD ?_ _ | refine k1_ ?_ | refine kA ?_ _)); refine kF ?_ NB107_108.out _; (with_reducible repeat (first | refine kD ?_ _ | refine k1_ ?_ | refine kA ?_ _)); exact BK107.out⟩, ⟨by (with_reducible repeat (first | refine kD ?_ _ | refine k1_ ?_ | refine kA ?_ _)); refine kP (cs := #[.int .i64 x109000_9, .int .i64 0, .int .i64 0, .int .i64 0, .bool t110]) ?_ 1 _ (by first | rfl | (simp only [u8w]; rfl)); (with_reducible repeat (first | refine kD ?_ _ | refine k1_ ?_ | refine kA ?_ _)); refine kP (cs := #[.int .i64 x109000_9, .int .i64 0, .int .i64 0, .int .i64 0, .bool false]) ?_ 4 _ (by first | rfl | (simp only [u8w]; rfl)); (with_reducible repeat (first | refine kD ?_ _ | refine k1_ ?_ | refine kA ?_ _)); exact BK108.out⟩, ⟨by repeat (first | (with_reducible first | exact HB.out | apply bA | apply bD | apply b1 | refine bS ?_ GE107.out | refine bS ?_ GE108.out) | exact HB.out)⟩⟩
            rw [if_neg c21] at H
            have c21b0 : (t109.toList == ([78, 84] : List UInt8)) = false := beq_eq_false_iff_ne.mpr c21
            have c21b1 : (t109.toList != ([78, 84] : List UInt8)) = true := bne_iff_ne.mpr c21
            (first | rw [c21b0] | (simp only [i64_w, i32_w]; rw [c21b0]) | skip)
            replace H := Option.bind_eq_some_iff.mp H
            obtain ⟨t111, A240, H⟩ := H
            replace H : (if t111 = true then (if 1 ≤ (t109.size : Int) then ((code_number.f kj9 (t109.extract 1 t109.size)).bind fun bt112 => (code_Parse.j2 kj9 bt112.2 x109000_9 2 (wrap64 (bt112.1 * 1000)) 0 t110)) else (none)) else ((strings_HasPrefix.f t109 (⟨#[68]⟩ : ByteArray)).bind fun t114 => (if t114 = true then (if 1 ≤ (t109.size : Int) then ((code_number.f kj9 (t109.extract 1 t109.size)).bind fun bt115 => (code_Parse.j2 kj9 bt115.2 x109000_9 3 0 bt115.1 t110)) else (none)) else ((strings_HasSuffix.f t109 (⟨#[76]⟩ : ByteArray)).bind fun t117 => (if t117 = true then (if 0 ≤ (wrap64 ((t109.size : Int) - 1)) then (if (wrap64 ((t109.size : Int) - 1)) ≤ (t109.size : Int) then ((code_number.f kj9 (t109.extract 0 ((wrap64 ((t109.size : Int) - 1)) : Int).toNat)).bind fun bt118 => (code_Parse.j2 kj9 bt118.2 x109000_9 1 (wrap64 (bt118.1 * 1000)) 0 t110)) else (none)) else (none)) else (code_Parse.j2 kj9 false x109000_9 0 0 0 t110)))))) = some (r1, r2, r3, r4, r5, r6) := H
            have A24 := AM A240
            clear A240
            by_cases c25 : t111 = true
            · subst c25
              have H1 : (if 1 ≤ (t109.size : Int) then ((code_number.f kj9 (t109.extract 1 t109.size)).bind fun bt112 => (code_Parse.j2 kj9 bt112.2 x109000_9 2 (wrap64 (bt112.1 * 1000)) 0 t110)) else (none)) = some (r1, r2, r3, r4, r5, r6) := by rw [if_pos rfl] at H; exact H
              clear H
              have H := H1
              clear H1
              by_cases c26 : 1 ≤ (t109.size : Int)
              rotate_left
              · rw [if_neg c26] at H
                exact absurd H (by simp)
              rw [if_pos c26] at H
              have c26b0 := eq_true c26
              have c26b1 : decide (1 ≤ (t109.size : Int)) = true := decide_eq_true c26
              clear c26
              replace H := Option.bind_eq_some_iff.mp H
              obtain ⟨⟨t112, t113⟩, A270, H⟩ := H
              replace H : (code_Parse.j2 kj9 t113 x109000_9 2 (wrap64 (t112 * 1000)) 0 t110) = some (r1, r2, r3, r4, r5, r6) := H
              have A27 := AM A270
              clear A270
              have H' := AM H
              clear H
              go_wp2_with (first | ((with_reducible refine gC (f := 20) rfl ?_); refine gL (some 39) rfl rfl Tryd.func20 (by kernel_rfl) rfl #[.string t109, .string (⟨#[75]⟩ : ByteArray)] rfl (by (try simp only [List.map_toArray, List.map_cons, List.map_nil]); first | done | rfl | (simp only [List.length_drop, List.length_take]; rfl)) ?_; (with_reducible refine (strings_HasPrefix.calls t109 (⟨#[75]⟩ : ByteArray) true _ A24.out).mono ?_); rintro e w' ⟨rfl, ⟨nd, rfl⟩⟩; refine ⟨_, rfl, ?_⟩) | ((with_reducible refine gC (f := 21) rfl ?_); refine gL (some 43) rfl rfl Tryd.func21 (by kernel_rfl) rfl #[.string (t109.extract 1 t109.size)] rfl (by (try simp only [List.map_toArray, List.map_cons, List.map_nil]); first | done | rfl | (simp only [List.length_drop, List.length_take]; rfl)) ?_; (with_reducible refine (code_number.calls kj9 (t109.extract 1 t109.size) t112 t113 _ A27.out).mono ?_); rintro e w' ⟨rfl, ⟨nd, rfl⟩⟩; refine ⟨_, rfl, ?_⟩; have hnb28 := NB108_107.out; have hnc28 := NB107_108.out; obtain ⟨_, _, _, _, _, _, _, _, _, _⟩ := bX5 BK108.out))
              go_meet
              case rel => exact ⟨_, (t113), (2), (wrap64 (t112 * 1000)), (0), (by first | rfl | (simp; done) | (simp [*]; done)), H', ⟨by have := HJ1.out; have := HJ9.out; first | omega | exact Nat.le_refl _⟩, ⟨by (with_reducible repeat (first | refine kD ?_ _ | refine k1_ ?_ | refine kA ?_ _)); refine kF ?_ NB107_108.out _; (with_reducible repeat (first | refine kD ?_ _ | refine k1_ ?_ | refine kA ?_ _)); refine kF ?_ NB107_108.out _; (with_reducible repeat (first | refine kD ?_ _ | refine k1_ ?_ | refine kA ?_ _)); refine kF ?_ NB107_108.out _; (with_reducible repeat (first | refine kD ?_ _ | refine k1_ ?_ | refine kA ?_ _)); exact BK107.out⟩, ⟨by (with_reducible repeat (first | refine kD ?_ _ | refine k1_ ?_ | refine kA ?_ _)); refine kP (cs := #[.int .i64 x109000_9, .int .i64 2, .int .i64 0, .int .i64 0, .bool t110]) ?_ 2 _ (by first | rfl | (simp only [u8w]; rfl)); (with_reducible repeat (first | refine kD ?_ _ | refine k1_ ?_ | refine kA ?_ _)); refine kP (cs := #[.int .i64 x109000_9, .int .i64 0, .int .i64 0, .int .i64 0, .bool t110]) ?_ 1 _ (by first | rfl | (simp only [u8w]; rfl)); (with_reducible repeat (first | refine kD ?_ _ | refine k1_ ?_ | refine kA ?_ _)); refine kP (cs := #[.int .i64 x109000_9, .int .i64 0, .int .i64 0, .int .i64 0, .bool false]) ?_ 4 _ (by first | rfl | (simp only [u8w]; rfl)); (with_reducible repeat (first | refine kD ?_ _ | refine k1_ ?_ | refine kA ?_ _)); exact BK108.out⟩, ⟨by repeat (first | (with_reducible first | exact HB.out | apply bA | apply bD | apply b1 | refine bS ?_ GE107.out | refine bS ?_ GE108.out) | exact HB.out)⟩⟩
            replace c25 := Bool.eq_false_iff.mpr c25
            subst c25
            have H1 : ((strings_HasPrefix.f t109 (⟨#[68]⟩ : ByteArray)).bind fun t114 => (if t114 = true then (if 1 ≤ (t109.size : Int) then ((code_number.f kj9 (t109.extract 1 t109.size)).bind fun bt115 => (code_Parse.j2 kj9 bt115.2 x109000_9 3 0 bt115.1 t110)) else (none)) else ((strings_HasSuffix.f t109 (⟨#[76]⟩ : ByteArray)).bind fun t117 => (if t117 = true then (if 0 ≤ (wrap64 ((t109.size : Int) - 1)) then (if (wrap64 ((t109.size : Int) - 1)) ≤ (t109.size : Int) then ((code_number.f kj9 (t109.extract 0 ((wrap64 ((t109.size : Int) - 1)) : Int).toNat)).bind fun bt118 => (code_Parse.j2 kj9 bt118.2 x109000_9 1 (wrap64 (bt118.1 * 1000)) 0 t110)) else (none)) else (none)) else (code_Parse.j2 kj9 false x109000_9 0 0 0 t110))))) = some (r1, r2, r3, r4, r5, r6) := by rw [if_neg (show ¬ (false = true) by decide)] at H; exact H
            clear H
            have H := H1
            clear H1
            replace H := Option.bind_eq_some_iff.mp H
            obtain ⟨t114, A300, H⟩ := H
            replace H : (if t114 = true then (if 1 ≤ (t109.size : Int) then ((code_number.f kj9 (t109.extract 1 t109.size)).bind fun bt115 => (code_Parse.j2 kj9 bt115.2 x109000_9 3 0 bt115.1 t110)) else (none)) else ((strings_HasSuffix.f t109 (⟨#[76]⟩ : ByteArray)).bind fun t117 => (if t117 = true then (if 0 ≤ (wrap64 ((t109.size : Int) - 1)) then (if (wrap64 ((t109.size : Int) - 1)) ≤ (t109.size : Int) then ((code_number.f kj9 (t109.extract 0 ((wrap64 ((t109.size : Int) - 1)) : Int).toNat)).bind fun bt118 => (code_Parse.j2 kj9 bt118.2 x109000_9 1 (wrap64 (bt118.1 * 1000)) 0 t110)) else (none)) else (none)) else (code_Parse.j2 kj9 false x109000_9 0 0 0 t110)))) = some (r1, r2, r3, r4, r5, r6) := H
            have A30 := AM A300
            clear A300
            by_cases c31 : t114 = true
            · subst c31
              have H1 : (if 1 ≤ (t109.size : Int) then ((code_number.f kj9 (t109.extract 1 t109.size)).bind fun bt115 => (code_Parse.j2 kj9 bt115.2 x109000_9 3 0 bt115.1 t110)) else (none)) = some (r1, r2, r3, r4, r5, r6) := by rw [if_pos rfl] at H; exact H
              clear H
              have H := H1
              clear H1
              by_cases c32 : 1 ≤ (t109.size : Int)
              rotate_left
              · rw [if_neg c32] at H
                exact absurd H (by simp)
              rw [if_pos c32] at H
              have c32b0 := eq_true c32
              have c32b1 : decide (1 ≤ (t109.size : Int)) = true := decide_eq_true c32
              clear c32
              replace H := Option.bind_eq_some_iff.mp H
              obtain ⟨⟨t115, t116⟩, A330, H⟩ := H
              replace H : (code_Parse.j2 kj9 t116 x109000_9 3 0 t115 t110) = some (r1, r2, r3, r4, r5, r6) := H
              have A33 := AM A330
              clear A330
              have H' := AM H
              clear H
              go_wp2_with (first | ((with_reducible refine gC (f := 20) rfl ?_); refine gL (some 39) rfl rfl Tryd.func20 (by kernel_rfl) rfl #[.string t109, .string (⟨#[75]⟩ : ByteArray)] rfl (by (try simp only [List.map_toArray, List.map_cons, List.map_nil]); first | done | rfl | (simp only [List.length_drop, List.length_take]; rfl)) ?_; (with_reducible refine (strings_HasPrefix.calls t109 (⟨#[75]⟩ : ByteArray) false _ A24.out).mono ?_); rintro e w' ⟨rfl, ⟨nd, rfl⟩⟩; refine ⟨_, rfl, ?_⟩) | ((with_reducible refine gC (f := 20) rfl ?_); refine gL (some 52) rfl rfl Tryd.func20 (by kernel_rfl) rfl #[.string t109, .string (⟨#[68]⟩ : ByteArray)] rfl (by (try simp only [List.map_toArray, List.map_cons, List.map_nil]); first | done | rfl | (simp only [List.length_drop, List.length_take]; rfl)) ?_; (with_reducible refine (strings_HasPrefix.calls t109 (⟨#[68]⟩ : ByteArray) true _ A30.out).mono ?_); rintro e w' ⟨rfl, ⟨nd, rfl⟩⟩; refine ⟨_, rfl, ?_⟩) | ((with_reducible refine gC (f := 21) rfl ?_); refine gL (some 56) rfl rfl Tryd.func21 (by kernel_rfl) rfl #[.string (t109.extract 1 t109.size)] rfl (by (try simp only [List.map_toArray, List.map_cons, List.map_nil]); first | done | rfl | (simp only [List.length_drop, List.length_take]; rfl)) ?_; (with_reducible refine (code_number.calls kj9 (t109.extract 1 t109.size) t115 t116 _ A33.out).mono ?_); rintro e w' ⟨rfl, ⟨nd, rfl⟩⟩; refine ⟨_, rfl, ?_⟩; have hnb34 := NB108_107.out; have hnc34 := NB107_108.out; obtain ⟨_, _, _, _, _, _, _, _, _, _⟩ := bX5 BK108.out))
              go_meet
              case rel => exact ⟨_, (t116), (3), (0), (t115), (by first | rfl | (simp; done) | (simp [*]; done)), H', ⟨by have := HJ1.out; have := HJ9.out; first | omega | exact Nat.le_refl _⟩, ⟨by (with_reducible repeat (first | refine kD ?_ _ | refine k1_ ?_ | refine kA ?_ _)); refine kF ?_ NB107_108.out _; (with_reducible repeat (first | refine kD ?_ _ | refine k1_ ?_ | refine kA ?_ _)); refine kF ?_ NB107_108.out _; (with_reducible repeat (first | refine kD ?_ _ | refine k1_ ?_ | refine kA ?_ _)); refine kF ?_ NB107_108.out _; (with_reducible repeat (first | refine kD ?_ _ | refine k1_ ?_ | refine kA ?_ _)); exact BK107.out⟩, ⟨by (with_reducible repeat (first | refine kD ?_ _ | refine k1_ ?_ | refine kA ?_ _)); refine kP (cs := #[.int .i64 x109000_9, .int .i64 3, .int .i64 0, .int .i64 0, .bool t110]) ?_ 3 _ (by first | rfl | (simp only [u8w]; rfl)); (with_reducible repeat (first | refine kD ?_ _ | refine k1_ ?_ | refine kA ?_ _)); refine kP (cs := #[.int .i64 x109000_9, .int .i64 0, .int .i64 0, .int .i64 0, .bool t110]) ?_ 1 _ (by first | rfl | (simp only [u8w]; rfl)); (with_reducible repeat (first | refine kD ?_ _ | refine k1_ ?_ | refine kA ?_ _)); refine kP (cs := #[.int .i64 x109000_9, .int .i64 0, .int .i64 0, .int .i64 0, .bool false]) ?_ 4 _ (by first | rfl | (simp only [u8w]; rfl)); (with_reducible repeat (first | refine kD ?_ _ | refine k1_ ?_ | refine kA ?_ _)); exact BK108.out⟩, ⟨by repeat (first | (with_reducible first | exact HB.out | apply bA | apply bD | apply b1 | refine bS ?_ GE107.out | refine bS ?_ GE108.out) | exact HB.out)⟩⟩
            replace c31 := Bool.eq_false_iff.mpr c31
            subst c31
            have H1 : ((strings_HasSuffix.f t109 (⟨#[76]⟩ : ByteArray)).bind fun t117 => (if t117 = true then (if 0 ≤ (wrap64 ((t109.size : Int) - 1)) then (if (wrap64 ((t109.size : Int) - 1)) ≤ (t109.size : Int) then ((code_number.f kj9 (t109.extract 0 ((wrap64 ((t109.size : Int) - 1)) : Int).toNat)).bind fun bt118 => (code_Parse.j2 kj9 bt118.2 x109000_9 1 (wrap64 (bt118.1 * 1000)) 0 t110)) else (none)) else (none)) else (code_Parse.j2 kj9 false x109000_9 0 0 0 t110))) = some (r1, r2, r3, r4, r5, r6) := by rw [if_neg (show ¬ (false = true) by decide)] at H; exact H
            clear H
            have H := H1
            clear H1
            replace H := Option.bind_eq_some_iff.mp H
            obtain ⟨t117, A360, H⟩ := H
            replace H : (if t117 = true then (if 0 ≤ (wrap64 ((t109.size : Int) - 1)) then (if (wrap64 ((t109.size : Int) - 1)) ≤ (t109.size : Int) then ((code_number.f kj9 (t109.extract 0 ((wrap64 ((t109.size : Int) - 1)) : Int).toNat)).bind fun bt118 => (code_Parse.j2 kj9 bt118.2 x109000_9 1 (wrap64 (bt118.1 * 1000)) 0 t110)) else (none)) else (none)) else (code_Parse.j2 kj9 false x109000_9 0 0 0 t110)) = some (r1, r2, r3, r4, r5, r6) := H
            have A36 := AM A360
            clear A360
            by_cases c37 : t117 = true
            rotate_left
            · replace c37 := Bool.eq_false_iff.mpr c37
              subst c37
              have H1 : (code_Parse.j2 kj9 false x109000_9 0 0 0 t110) = some (r1, r2, r3, r4, r5, r6) := by rw [if_neg (show ¬ (false = true) by decide)] at H; exact H
              clear H
              have H := H1
              clear H1
              have H' := AM H
              clear H
              go_wp2_with (first | ((with_reducible refine gC (f := 20) rfl ?_); refine gL (some 39) rfl rfl Tryd.func20 (by kernel_rfl) rfl #[.string t109, .string (⟨#[75]⟩ : ByteArray)] rfl (by (try simp only [List.map_toArray, List.map_cons, List.map_nil]); first | done | rfl | (simp only [List.length_drop, List.length_take]; rfl)) ?_; (with_reducible refine (strings_HasPrefix.calls t109 (⟨#[75]⟩ : ByteArray) false _ A24.out).mono ?_); rintro e w' ⟨rfl, ⟨nd, rfl⟩⟩; refine ⟨_, rfl, ?_⟩) | ((with_reducible refine gC (f := 20) rfl ?_); refine gL (some 52) rfl rfl Tryd.func20 (by kernel_rfl) rfl #[.string t109, .string (⟨#[68]⟩ : ByteArray)] rfl (by (try simp only [List.map_toArray, List.map_cons, List.map_nil]); first | done | rfl | (simp only [List.length_drop, List.length_take]; rfl)) ?_; (with_reducible refine (strings_HasPrefix.calls t109 (⟨#[68]⟩ : ByteArray) false _ A30.out).mono ?_); rintro e w' ⟨rfl, ⟨nd, rfl⟩⟩; refine ⟨_, rfl, ?_⟩) | ((with_reducible refine gC (f := 18) rfl ?_); refine gL (some 64) rfl rfl Tryd.func18 (by kernel_rfl) rfl #[.string t109, .string (⟨#[76]⟩ : ByteArray)] rfl (by (try simp only [List.map_toArray, List.map_cons, List.map_nil]); first | done | rfl | (simp only [List.length_drop, List.length_take]; rfl)) ?_; (with_reducible refine (strings_HasSuffix.calls t109 (⟨#[76]⟩ : ByteArray) false _ A36.out).mono ?_); rintro e w' ⟨rfl, ⟨nd, rfl⟩⟩; refine ⟨_, rfl, ?_⟩))
              go_meet
              case rel => exact ⟨_, (false), (0), (0), (0), (by first | rfl | (simp; done) | (simp [*]; done)), H', ⟨by have := HJ1.out; have := HJ9.out; first | omega | exact Nat.le_refl _⟩, ⟨by (with_reducible repeat (first | refine kD ?_ _ | refine k1_ ?_ | refine kA ?_ _)); refine kF ?_ NB107_108.out _; (with_reducible repeat (first | refine kD ?_ _ | refine k1_ ?_ | refine kA ?_ _)); exact BK107.out⟩, ⟨by (with_reducible repeat (first | refine kD ?_ _ | refine k1_ ?_ | refine kA ?_ _)); refine kP (cs := #[.int .i64 x109000_9, .int .i64 0, .int .i64 0, .int .i64 0, .bool false]) ?_ 4 _ (by first | rfl | (simp only [u8w]; rfl)); (with_reducible repeat (first | refine kD ?_ _ | refine k1_ ?_ | refine kA ?_ _)); exact BK108.out⟩, ⟨by repeat (first | (with_reducible first | exact HB.out | apply bA | apply bD | apply b1 | refine bS ?_ GE107.out | refine bS ?_ GE108.out) | exact HB.out)⟩⟩
            subst c37
            have H1 : (if 0 ≤ (wrap64 ((t109.size : Int) - 1)) then (if (wrap64 ((t109.size : Int) - 1)) ≤ (t109.size : Int) then ((code_number.f kj9 (t109.extract 0 ((wrap64 ((t109.size : Int) - 1)) : Int).toNat)).bind fun bt118 => (code_Parse.j2 kj9 bt118.2 x109000_9 1 (wrap64 (bt118.1 * 1000)) 0 t110)) else (none)) else (none)) = some (r1, r2, r3, r4, r5, r6) := by rw [if_pos rfl] at H; exact H
            clear H
            have H := H1
            clear H1
            obtain ⟨ji38, hji38⟩ : ∃ j_ : Int, (wrap64 ((t109.size : Int) - 1)) = j_ := ⟨_, rfl⟩
            replace H : (if 0 ≤ (ji38) then (if (ji38) ≤ (t109.size : Int) then ((code_number.f kj9 (t109.extract 0 ((ji38) : Int).toNat)).bind fun bt118 => (code_Parse.j2 kj9 bt118.2 x109000_9 1 (wrap64 (bt118.1 * 1000)) 0 t110)) else (none)) else (none)) = some (r1, r2, r3, r4, r5, r6) := by first | (rw [hji38] at H; exact H) | (simp only [hji38] at H ⊢; exact H)
            (try rw [hji38] at A24)
            (try rw [hji38] at A30)
            (try rw [hji38] at A36)
            have hji38w : (IntKind.i64.wrap ((t109.size : Int) - 1)) = ji38 := (i64_w _).trans hji38
            by_cases c39 : 0 ≤ (ji38)
            rotate_left
            · rw [if_neg c39] at H
              exact absurd H (by simp)
            rw [if_pos c39] at H
            have c39b0 := eq_true c39
            have c39b1 : decide (0 ≤ (ji38)) = true := decide_eq_true c39
            clear c39
            by_cases c40 : (ji38) ≤ (t109.size : Int)
            rotate_left
            · rw [if_neg c40] at H
              exact absurd H (by simp)
            rw [if_pos c40] at H
            have c40b0 := eq_true c40
            have c40b1 : decide ((ji38) ≤ (t109.size : Int)) = true := decide_eq_true c40
            clear c40
            replace H := Option.bind_eq_some_iff.mp H
            obtain ⟨⟨t118, t119⟩, A410, H⟩ := H
            replace H : (code_Parse.j2 kj9 t119 x109000_9 1 (wrap64 (t118 * 1000)) 0 t110) = some (r1, r2, r3, r4, r5, r6) := H
            have A41 := AM A410
            clear A410
            have H' := AM H
            clear H
            go_wp2_with (first | ((with_reducible refine gC (f := 20) rfl ?_); refine gL (some 39) rfl rfl Tryd.func20 (by kernel_rfl) rfl #[.string t109, .string (⟨#[75]⟩ : ByteArray)] rfl (by (try simp only [List.map_toArray, List.map_cons, List.map_nil]); first | done | rfl | (simp only [List.length_drop, List.length_take]; rfl)) ?_; (with_reducible refine (strings_HasPrefix.calls t109 (⟨#[75]⟩ : ByteArray) false _ A24.out).mono ?_); rintro e w' ⟨rfl, ⟨nd, rfl⟩⟩; refine ⟨_, rfl, ?_⟩) | ((with_reducible refine gC (f := 20) rfl ?_); refine gL (some 52) rfl rfl Tryd.func20 (by kernel_rfl) rfl #[.string t109, .string (⟨#[68]⟩ : ByteArray)] rfl (by (try simp only [List.map_toArray, List.map_cons, List.map_nil]); first | done | rfl | (simp only [List.length_drop, List.length_take]; rfl)) ?_; (with_reducible refine (strings_HasPrefix.calls t109 (⟨#[68]⟩ : ByteArray) false _ A30.out).mono ?_); rintro e w' ⟨rfl, ⟨nd, rfl⟩⟩; refine ⟨_, rfl, ?_⟩) | ((with_reducible refine gC (f := 18) rfl ?_); refine gL (some 64) rfl rfl Tryd.func18 (by kernel_rfl) rfl #[.string t109, .string (⟨#[76]⟩ : ByteArray)] rfl (by (try simp only [List.map_toArray, List.map_cons, List.map_nil]); first | done | rfl | (simp only [List.length_drop, List.length_take]; rfl)) ?_; (with_reducible refine (strings_HasSuffix.calls t109 (⟨#[76]⟩ : ByteArray) true _ A36.out).mono ?_); rintro e w' ⟨rfl, ⟨nd, rfl⟩⟩; refine ⟨_, rfl, ?_⟩) | ((with_reducible refine gC (f := 21) rfl ?_); refine gL (some 71) rfl rfl Tryd.func21 (by kernel_rfl) rfl #[.string (t109.extract 0 ((ji38) : Int).toNat)] rfl (by (try simp only [List.map_toArray, List.map_cons, List.map_nil]); first | done | (simp only [hji38]; rfl) | rfl | (simp only [List.length_drop, List.length_take]; rfl)) ?_; (with_reducible refine (code_number.calls kj9 (t109.extract 0 ((ji38) : Int).toNat) t118 t119 _ A41.out).mono ?_); rintro e w' ⟨rfl, ⟨nd, rfl⟩⟩; refine ⟨_, rfl, ?_⟩; have hnb42 := NB108_107.out; have hnc42 := NB107_108.out; obtain ⟨_, _, _, _, _, _, _, _, _, _⟩ := bX5 BK108.out))
            go_meet
            case rel => exact ⟨_, (t119), (1), (wrap64 (t118 * 1000)), (0), (by first | rfl | (simp; done) | (simp [*]; done)), H', ⟨by have := HJ1.out; have := HJ9.out; first | omega | exact Nat.le_refl _⟩, ⟨by (with_reducible repeat (first | refine kD ?_ _ | refine k1_ ?_ | refine kA ?_ _)); refine kF ?_ NB107_108.out _; (with_reducible repeat (first | refine kD ?_ _ | refine k1_ ?_ | refine kA ?_ _)); refine kF ?_ NB107_108.out _; (with_reducible repeat (first | refine kD ?_ _ | refine k1_ ?_ | refine kA ?_ _)); refine kF ?_ NB107_108.out _; (with_reducible repeat (first | refine kD ?_ _ | refine k1_ ?_ | refine kA ?_ _)); exact BK107.out⟩, ⟨by (with_reducible repeat (first | refine kD ?_ _ | refine k1_ ?_ | refine kA ?_ _)); refine kP (cs := #[.int .i64 x109000_9, .int .i64 1, .int .i64 0, .int .i64 0, .bool t110]) ?_ 2 _ (by first | rfl | (simp only [u8w]; rfl)); (with_reducible repeat (first | refine kD ?_ _ | refine k1_ ?_ | refine kA ?_ _)); refine kP (cs := #[.int .i64 x109000_9, .int .i64 0, .int .i64 0, .int .i64 0, .bool t110]) ?_ 1 _ (by first | rfl | (simp only [u8w]; rfl)); (with_reducible repeat (first | refine kD ?_ _ | refine k1_ ?_ | refine kA ?_ _)); refine kP (cs := #[.int .i64 x109000_9, .int .i64 0, .int .i64 0, .int .i64 0, .bool false]) ?_ 4 _ (by first | rfl | (simp only [u8w]; rfl)); (with_reducible repeat (first | refine kD ?_ _ | refine k1_ ?_ | refine kA ?_ _)); exact BK108.out⟩, ⟨by repeat (first | (with_reducible first | exact HB.out | apply bA | apply bD | apply b1 | refine bS ?_ GE107.out | refine bS ?_ GE108.out) | exact HB.out)⟩⟩
          case rest =>
            clear HC18
            obtain ⟨kq, x6_17, x109001_17, x109002_17, x109003_17, rfl, HA, HJ17, BK107, BK108, HB⟩ := hcut
            cases kq with
            | zero => exact absurd HA.out (by simp [code_Parse.j2])
            | succ kj17 =>
              have H := HA.out
              clear HA
              simp only [code_Parse.j2] at H
              by_cases c44 : x6_17 = true
              rotate_left
              · replace c44 := Bool.eq_false_iff.mpr c44
                subst c44
                have H1 : (some (0, 0, 0, 0, false, 5)) = some (r1, r2, r3, r4, r5, r6) := by rw [if_neg (show ¬ (false = true) by decide)] at H; exact H
                clear H
                have H := H1
                clear H1
                simp only [Option.some.injEq, Prod.mk.injEq] at H
                obtain ⟨rfl, rfl, rfl, rfl, rfl, rfl⟩ := H
                have hnb56 := NB107_108.out
                have hnc56 := NB108_107.out
                obtain ⟨_, _, _, _, _, _, _, _, _, _⟩ := bX5 BK107.out
                go_wp2
                refine bodyPost_ret (results_ct rfl _ _ gb107 23 #[.int .i64 0, .int .i64 0, .int .i64 0, .int .i64 0, .bool false] (0, 0) _ rfl (by (with_reducible repeat (first | refine kD ?_ _ | refine k1_ ?_ | refine kA ?_ _)); refine kP (cs := #[.int .i64 0, .int .i64 0, .int .i64 0, .int .i64 0, .bool false]) ?_ 4 _ (by first | rfl | (simp only [u8w]; rfl)); (with_reducible repeat (first | refine kD ?_ _ | refine k1_ ?_ | refine kA ?_ _)); refine kP (cs := #[.int .i64 0, .int .i64 0, .int .i64 0, .int .i64 0, .bool false]) ?_ 3 _ (by first | rfl | (simp only [u8w]; rfl)); (with_reducible repeat (first | refine kD ?_ _ | refine k1_ ?_ | refine kA ?_ _)); refine kP (cs := #[.int .i64 0, .int .i64 0, .int .i64 0, .int .i64 0, .bool false]) ?_ 2 _ (by first | rfl | (simp only [u8w]; rfl)); (with_reducible repeat (first | refine kD ?_ _ | refine k1_ ?_ | refine kA ?_ _)); refine kP (cs := #[.int .i64 0, .int .i64 0, .int .i64 0, .int .i64 0, .bool false]) ?_ 1 _ (by first | rfl | (simp only [u8w]; rfl)); (with_reducible repeat (first | refine kD ?_ _ | refine k1_ ?_ | refine kA ?_ _)); refine kP (cs := #[.int .i64 0, .int .i64 0, .int .i64 0, .int .i64 0, .bool false]) ?_ 0 _ (by first | rfl | (simp only [u8w]; rfl)); (with_reducible repeat (first | refine kD ?_ _ | refine k1_ ?_ | refine kA ?_ _)); exact BK107.out) Tryd.underlying23 rfl (by kernel_rfl)) rfl ?_
                exact ⟨by first | rfl | (simp [errW_none, errW_some] <;> rfl) | (simp [*, errW_none, errW_some] <;> rfl), by repeat (first | (with_reducible first | exact HB.out | apply bA | apply bD | apply b1 | refine bS ?_ GE107.out | refine bS ?_ GE108.out) | exact HB.out)⟩


              subst c44
              have H1 : ((code_Check.f kj17 x109000_9 x109001_17 x109002_17 x109003_17 t110).bind fun t120 => (if t120 = 0 then (some (x109000_9, x109001_17, x109002_17, x109003_17, t110, 0)) else (some (0, 0, 0, 0, false, t120)))) = some (r1, r2, r3, r4, r5, r6) := by rw [if_pos rfl] at H; exact H
              clear H
              have H := H1
              clear H1
              replace H := Option.bind_eq_some_iff.mp H
              obtain ⟨t120, A450, H⟩ := H
              replace H : (if t120 = 0 then (some (x109000_9, x109001_17, x109002_17, x109003_17, t110, 0)) else (some (0, 0, 0, 0, false, t120))) = some (r1, r2, r3, r4, r5, r6) := H
              have A45 := AM A450
              clear A450
              by_cases c46 : t120 = 0
              rotate_left
              · rw [if_neg c46] at H
                have c46b0 : (t120 == 0) = false := beq_eq_false_iff_ne.mpr c46
                have c46b1 : (t120 != 0) = true := bne_iff_ne.mpr c46
                simp only [Option.some.injEq, Prod.mk.injEq] at H
                obtain ⟨rfl, rfl, rfl, rfl, rfl, rfl⟩ := H
                have hnb52 := NB108_107.out
                have hnc52 := NB107_108.out
                obtain ⟨_, _, _, _, _, _, _, _, _, _⟩ := bX5 BK108.out
                go_wp2_with (first | ((with_reducible refine gC (f := 12) rfl ?_); refine gL (some 82) rfl rfl Tryd.func12 (by kernel_rfl) rfl #[.agg #[.int .i64 x109000_9, .int .i64 x109001_17, .int .i64 x109002_17, .int .i64 x109003_17, .bool t110]] rfl (by (try simp only [List.map_toArray, List.map_cons, List.map_nil]); first | done | rfl | (simp only [List.length_drop, List.length_take]; rfl)) ?_; (with_reducible refine (code_Check.calls kj17 x109000_9 x109001_17 x109002_17 x109003_17 t110 t120 _ A45.out).mono ?_); rintro e w54 ⟨rfl, hb⟩; refine ⟨_, rfl, ?_⟩; have n0_ := AM (kB (g := gb107) (o := .cells #[.int .i64 0, .int .i64 0, .int .i64 0, .int .i64 0, .bool false] 23 (0, 0)) (kW BK107) hb); have n1_ := AM (kB (g := gb108) (o := .cells #[.int .i64 x109000_9, .int .i64 x109001_17, .int .i64 x109002_17, .int .i64 x109003_17, .bool t110] 23 (0, 0)) (kW BK108) hb); have n2_ := AM (bT bQ hb); clear BK107; clear BK108; clear HB; have BK107 := n0_; have BK108 := n1_; have HB := n2_; clear n0_ n1_ n2_; (try clear hb); (try clear hb2); (try clear hk); (try clear hi); obtain ⟨_, _, _, _, _, _, _, _, _, _⟩ := bX5 BK107.out))
                refine bodyPost_ret (results_ct rfl _ _ gb107 23 #[.int .i64 0, .int .i64 0, .int .i64 0, .int .i64 0, .bool false] (0, 0) _ rfl (by (with_reducible repeat (first | refine kD ?_ _ | refine k1_ ?_ | refine kA ?_ _)); refine kP (cs := #[.int .i64 0, .int .i64 0, .int .i64 0, .int .i64 0, .bool false]) ?_ 4 _ (by first | rfl | (simp only [u8w]; rfl)); (with_reducible repeat (first | refine kD ?_ _ | refine k1_ ?_ | refine kA ?_ _)); refine kP (cs := #[.int .i64 0, .int .i64 0, .int .i64 0, .int .i64 0, .bool false]) ?_ 3 _ (by first | rfl | (simp only [u8w]; rfl)); (with_reducible repeat (first | refine kD ?_ _ | refine k1_ ?_ | refine kA ?_ _)); refine kP (cs := #[.int .i64 0, .int .i64 0, .int .i64 0, .int .i64 0, .bool false]) ?_ 2 _ (by first | rfl | (simp only [u8w]; rfl)); (with_reducible repeat (first | refine kD ?_ _ | refine k1_ ?_ | refine kA ?_ _)); refine kP (cs := #[.int .i64 0, .int .i64 0, .int .i64 0, .int .i64 0, .bool false]) ?_ 1 _ (by first | rfl | (simp only [u8w]; rfl)); (with_reducible repeat (first | refine kD ?_ _ | refine k1_ ?_ | refine kA ?_ _)); refine kP (cs := #[.int .i64 0, .int .i64 0, .int .i64 0, .int .i64 0, .bool false]) ?_ 0 _ (by first | rfl | (simp only [u8w]; rfl)); (with_reducible repeat (first | refine kD ?_ _ | refine k1_ ?_ | refine kA ?_ _)); exact BK107.out) Tryd.underlying23 rfl (by kernel_rfl)) rfl ?_
                exact ⟨by first | rfl | (simp [errW_none, errW_some] <;> rfl) | (simp [*, errW_none, errW_some] <;> rfl), by repeat (first | (with_reducible first | exact HB.out | apply bA | apply bD | apply b1 | refine bS ?_ GE107.out | refine bS ?_ GE108.out) | exact HB.out)⟩
              rw [if_pos c46] at H
              have c46b0 : (t120 == 0) = true := beq_iff_eq.mpr c46
              have c46b1 : (t120 != 0) = false := bne_eq_false_iff_eq.mpr c46
              clear c46
              simp only [Option.some.injEq, Prod.mk.injEq] at H
              obtain ⟨rfl, rfl, rfl, rfl, rfl, rfl⟩ := H
              have hnb47 := NB108_107.out
              have hnc47 := NB107_108.out
              obtain ⟨_, _, _, _, _, _, _, _, _, _⟩ := bX5 BK108.out
              go_wp2_with (first | ((with_reducible refine gC (f := 12) rfl ?_); refine gL (some 82) rfl rfl Tryd.func12 (by kernel_rfl) rfl #[.agg #[.int .i64 x109000_9, .int .i64 x109001_17, .int .i64 x109002_17, .int .i64 x109003_17, .bool t110]] rfl (by (try simp only [List.map_toArray, List.map_cons, List.map_nil]); first | done | rfl | (simp only [List.length_drop, List.length_take]; rfl)) ?_; (with_reducible refine (code_Check.calls kj17 x109000_9 x109001_17 x109002_17 x109003_17 t110 t120 _ A45.out).mono ?_); rintro e w49 ⟨rfl, hb⟩; refine ⟨_, rfl, ?_⟩; have n0_ := AM (kB (g := gb107) (o := .cells #[.int .i64 0, .int .i64 0, .int .i64 0, .int .i64 0, .bool false] 23 (0, 0)) (kW BK107) hb); have n1_ := AM (kB (g := gb108) (o := .cells #[.int .i64 x109000_9, .int .i64 x109001_17, .int .i64 x109002_17, .int .i64 x109003_17, .bool t110] 23 (0, 0)) (kW BK108) hb); have n2_ := AM (bT bQ hb); clear BK107; clear BK108; clear HB; have BK107 := n0_; have BK108 := n1_; have HB := n2_; clear n0_ n1_ n2_; (try clear hb); (try clear hb2); (try clear hk); (try clear hi); obtain ⟨_, _, _, _, _, _, _, _, _, _⟩ := bX5 BK108.out; obtain ⟨_, _, _, _, _, _, _, _, _, _⟩ := bX5 BK107.out))
              refine bodyPost_ret (results_ct rfl _ _ gb107 23 #[.int .i64 x109000_9, .int .i64 x109001_17, .int .i64 x109002_17, .int .i64 x109003_17, .bool t110] (0, 0) _ rfl (by (with_reducible repeat (first | refine kD ?_ _ | refine k1_ ?_ | refine kA ?_ _)); refine kP (cs := #[.int .i64 x109000_9, .int .i64 x109001_17, .int .i64 x109002_17, .int .i64 x109003_17, .bool false]) ?_ 4 _ (by first | rfl | (simp only [u8w]; rfl)); (with_reducible repeat (first | refine kD ?_ _ | refine k1_ ?_ | refine kA ?_ _)); refine kP (cs := #[.int .i64 x109000_9, .int .i64 x109001_17, .int .i64 x109002_17, .int .i64 0, .bool false]) ?_ 3 _ (by first | rfl | (simp only [u8w]; rfl)); (with_reducible repeat (first | refine kD ?_ _ | refine k1_ ?_ | refine kA ?_ _)); refine kP (cs := #[.int .i64 x109000_9, .int .i64 x109001_17, .int .i64 0, .int .i64 0, .bool false]) ?_ 2 _ (by first | rfl | (simp only [u8w]; rfl)); (with_reducible repeat (first | refine kD ?_ _ | refine k1_ ?_ | refine kA ?_ _)); refine kP (cs := #[.int .i64 x109000_9, .int .i64 0, .int .i64 0, .int .i64 0, .bool false]) ?_ 1 _ (by first | rfl | (simp only [u8w]; rfl)); (with_reducible repeat (first | refine kD ?_ _ | refine k1_ ?_ | refine kA ?_ _)); refine kP (cs := #[.int .i64 0, .int .i64 0, .int .i64 0, .int .i64 0, .bool false]) ?_ 0 _ (by first | rfl | (simp only [u8w]; rfl)); (with_reducible repeat (first | refine kD ?_ _ | refine k1_ ?_ | refine kA ?_ _)); exact BK107.out) Tryd.underlying23 rfl (by kernel_rfl)) rfl ?_
              exact ⟨by first | rfl | (simp [errW_none, errW_some] <;> rfl) | (simp [*, errW_none, errW_some] <;> rfl), by repeat (first | (with_reducible first | exact HB.out | apply bA | apply bD | apply b1 | refine bS ?_ GE107.out | refine bS ?_ GE108.out) | exact HB.out)⟩
end Go.Proofs.YtodijkdmcjnpkaaDoor.K
