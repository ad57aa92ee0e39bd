-- by a program of this session, over the kit's printer
import Derived.Test.YtdllkibfikcfbaaDoorKx0
import Derived.Test.YtdllkibfikcfbaaDoorKx1
import Derived.Test.YtdllkibfikcfbaaDoorKx2
import Derived.Test.YtdllkibfikcfbaaDoorKx4
import Derived.Test.YtdllkibfikcfbaaDoorKx5
namespace Go.Proofs.YtdllkibfikcfbaaDoor.K
open Go.RowKit Go.Proofs.YtdllkibfikcfbaaDoorW.PrintWords Go.Proofs.YtdllkibfikcfbaaDoorW.PrintLast Go.Proofs.YtdllkibfikcfbaaDoorW.PrintMore
attribute [local go_sem] max2_int min2_int max_two min_two max_three min_three max_four min_four   -- for this text's walks alone
set_option linter.unusedVariables false
set_option linter.unusedSimpArgs false

/-! ### table_Check: function 10 -/
def table_Check.f (k : Nat) (l0_0 : List (List (S41))) (l0_1 : List (S43)) (l0_2 : List (S58)) (a0_3 : Int) (a0_4 : Int) : Option (Int) := (frac_Rate.f a0_3).bind fun t143 => (if t143 = true then ((frac_Mode.f a0_4).bind fun t144 => (if t144 = true then ((table_schemes.f k l0_0 l0_1 l0_2 a0_3 a0_4).bind fun t145 => ((table_contribs.f k l0_0 l0_1 l0_2 a0_3 a0_4).bind fun t146 => ((table_kinds.f k l0_0 l0_1 l0_2 a0_3 a0_4).bind fun t147 => (if t145 = 0 then (if t146 = 0 then (if t147 = 0 then (some 0) else (some t147)) else (some t146)) else (some t145))))) else (some 1))) else (some 50))
set_option maxHeartbeats 8000000 in
set_option maxRecDepth 100000 in
theorem table_Check.calls (k : Nat) (A0_0 : Option Addr) (c0_0 : Nat) (l0_0 : List (List (S41))) (A0_1 : Option Addr) (c0_1 : Nat) (l0_1 : List (S43)) (A0_2 : Option Addr) (c0_2 : Nat) (l0_2 : List (S58)) (a0_3 : Int) (a0_4 : Int) (r : Int) (w : World) (hr0_0 : Kd.C (Kd.slice 52 k41) w A0_0 l0_0.length l0_0) (hc0_0 : l0_0.length ≤ c0_0) (hr0_1 : Kd.C k43 w A0_1 l0_1.length l0_1) (hc0_1 : l0_1.length ≤ c0_1) (hr0_2 : Kd.C k58 w A0_2 l0_2.length l0_2) (hc0_2 : l0_2.length ≤ c0_2) (h : table_Check.f k l0_0 l0_1 l0_2 a0_3 a0_4 = some r) :
    Calls Tryd.prog 9 #[.agg #[.slice A0_0 l0_0.length c0_0, .slice A0_1 l0_1.length c0_1, .slice A0_2 l0_2.length c0_2, .int .i64 a0_3, .int .i64 a0_4]] w fun e w' => e = .returned (.int .i64 r) ∧ Below w.heap.size w w' := by
  have hu26 := Tryd.underlying26
  have HR0_0 := AM hr0_0
  have HC0_0 := AM hc0_0
  clear hr0_0 hc0_0
  have HR0_1 := AM hr0_1
  have HC0_1 := AM hc0_1
  clear hr0_1 hc0_1
  have HR0_2 := AM hr0_2
  have HC0_2 := AM hc0_2
  clear hr0_2 hc0_2
  have HB := AM (Below.refl w.heap.size w)
  have H : ((frac_Rate.f a0_3).bind fun t143 => (if t143 = true then ((frac_Mode.f a0_4).bind fun t144 => (if t144 = true then ((table_schemes.f k l0_0 l0_1 l0_2 a0_3 a0_4).bind fun t145 => ((table_contribs.f k l0_0 l0_1 l0_2 a0_3 a0_4).bind fun t146 => ((table_kinds.f k l0_0 l0_1 l0_2 a0_3 a0_4).bind fun t147 => (if t145 = 0 then (if t146 = 0 then (if t147 = 0 then (some 0) else (some t147)) else (some t146)) else (some t145))))) else (some 1))) else (some 50))) = some r := h
  clear h
  replace H := Option.bind_eq_some_iff.mp H
  obtain ⟨t143, A20, H⟩ := H
  replace H : (if t143 = true then ((frac_Mode.f a0_4).bind fun t144 => (if t144 = true then ((table_schemes.f k l0_0 l0_1 l0_2 a0_3 a0_4).bind fun t145 => ((table_contribs.f k l0_0 l0_1 l0_2 a0_3 a0_4).bind fun t146 => ((table_kinds.f k l0_0 l0_1 l0_2 a0_3 a0_4).bind fun t147 => (if t145 = 0 then (if t146 = 0 then (if t147 = 0 then (some 0) else (some t147)) else (some t146)) else (some t145))))) else (some 1))) else (some 50)) = some r := H
  have A2 := AM A20
  clear A20
  by_cases c3 : t143 = true
  rotate_left
  · replace c3 := Bool.eq_false_iff.mpr c3
    subst c3
    have H1 : (some 50) = some r := by rw [if_neg (show ¬ (false = true) by decide)] at H; exact H
    clear H
    have H := H1
    clear H1
    obtain rfl := Option.some.inj H
    go_enter Tryd.func9, Tryd.ntmps9
    go_wp2_with (first | ((with_reducible refine gD (N := 1) rfl ?_); refine bE ?hg (N := 1) ?hd (cs := #[.slice A0_0 l0_0.length c0_0, .slice A0_1 l0_1.length c0_1, .slice A0_2 l0_2.length c0_2, .int .i64 a0_3, .int .i64 a0_4]) (t := 26) ?hr ?_; (case hd => rfl); (case hg => rfl); (case hr => first | (go_simp; done) | (go_simp; rfl)); intro gb142 hg w38 hbox hb; have n0_ := AM (bT bQ hb); have n1_ := AM (hbox); have n2_ := AM ((by rw [hg]; exact (bZ bQ) : w.heap.size ≤ gb142)); have n3_ := AM ((by rw [hg]; exact (bZ bQ) : w.heap.size ≤ gb142)); clear HB; have HB := n0_; have BK142 := n1_; have GW142 := n2_; have GE142 := n3_; clear n0_ n1_ n2_ n3_; clear hb hbox hg; obtain ⟨_, _, _, _, _, _, _, _, _, _⟩ := bX5 BK142.out) | ((with_reducible refine gC (f := 20) rfl ?_); refine gL (some 7) rfl rfl Tryd.func20 (by kernel_rfl) rfl #[.int .i64 a0_3] rfl (by (try simp only [List.map_toArray, List.map_cons, List.map_nil]); first | done | rfl | (simp only [List.length_drop, List.length_take]; rfl)) ?_; (with_reducible refine (frac_Rate.calls a0_3 false _ A2.out).mono ?_); rintro e w' ⟨rfl, ⟨nd, rfl⟩⟩; refine ⟨_, rfl, ?_⟩))
    go_ret
    exact ⟨by first | rfl | (simp [errW_none, errW_some] <;> rfl) | (simp [*, errW_none, errW_some] <;> rfl), by repeat (first | (with_reducible first | exact HB.out | apply bA | apply bD | apply b1 | refine bS ?_ GE142.out) | exact HB.out)⟩

  subst c3
  have H1 : ((frac_Mode.f a0_4).bind fun t144 => (if t144 = true then ((table_schemes.f k l0_0 l0_1 l0_2 a0_3 a0_4).bind fun t145 => ((table_contribs.f k l0_0 l0_1 l0_2 a0_3 a0_4).bind fun t146 => ((table_kinds.f k l0_0 l0_1 l0_2 a0_3 a0_4).bind fun t147 => (if t145 = 0 then (if t146 = 0 then (if t147 = 0 then (some 0) else (some t147)) else (some t146)) else (some t145))))) else (some 1))) = some r := by rw [if_pos rfl] at H; exact H
  clear H
  have H := H1
  clear H1
  replace H := Option.bind_eq_some_iff.mp H
  obtain ⟨t144, A40, H⟩ := H
  replace H : (if t144 = true then ((table_schemes.f k l0_0 l0_1 l0_2 a0_3 a0_4).bind fun t145 => ((table_contribs.f k l0_0 l0_1 l0_2 a0_3 a0_4).bind fun t146 => ((table_kinds.f k l0_0 l0_1 l0_2 a0_3 a0_4).bind fun t147 => (if t145 = 0 then (if t146 = 0 then (if t147 = 0 then (some 0) else (some t147)) else (some t146)) else (some t145))))) else (some 1)) = some r := H
  have A4 := AM A40
  clear A40
  by_cases c5 : t144 = true
  rotate_left
  · replace c5 := Bool.eq_false_iff.mpr c5
    subst c5
    have H1 : (some 1) = some r := by rw [if_neg (show ¬ (false = true) by decide)] at H; exact H
    clear H
    have H := H1
    clear H1
    obtain rfl := Option.some.inj H
    go_enter Tryd.func9, Tryd.ntmps9
    go_wp2_with (first | ((with_reducible refine gD (N := 1) rfl ?_); refine bE ?hg (N := 1) ?hd (cs := #[.slice A0_0 l0_0.length c0_0, .slice A0_1 l0_1.length c0_1, .slice A0_2 l0_2.length c0_2, .int .i64 a0_3, .int .i64 a0_4]) (t := 26) ?hr ?_; (case hd => rfl); (case hg => rfl); (case hr => first | (go_simp; done) | (go_simp; rfl)); intro gb142 hg w36 hbox hb; have n0_ := AM (bT bQ hb); have n1_ := AM (hbox); have n2_ := AM ((by rw [hg]; exact (bZ bQ) : w.heap.size ≤ gb142)); have n3_ := AM ((by rw [hg]; exact (bZ bQ) : w.heap.size ≤ gb142)); clear HB; have HB := n0_; have BK142 := n1_; have GW142 := n2_; have GE142 := n3_; clear n0_ n1_ n2_ n3_; clear hb hbox hg; obtain ⟨_, _, _, _, _, _, _, _, _, _⟩ := bX5 BK142.out) | ((with_reducible refine gC (f := 20) rfl ?_); refine gL (some 7) rfl rfl Tryd.func20 (by kernel_rfl) rfl #[.int .i64 a0_3] rfl (by (try simp only [List.map_toArray, List.map_cons, List.map_nil]); first | done | rfl | (simp only [List.length_drop, List.length_take]; rfl)) ?_; (with_reducible refine (frac_Rate.calls a0_3 true _ A2.out).mono ?_); rintro e w' ⟨rfl, ⟨nd, rfl⟩⟩; refine ⟨_, rfl, ?_⟩) | ((with_reducible refine gC (f := 21) rfl ?_); refine gL (some 11) rfl rfl Tryd.func21 (by kernel_rfl) rfl #[.int .i64 a0_4] rfl (by (try simp only [List.map_toArray, List.map_cons, List.map_nil]); first | done | rfl | (simp only [List.length_drop, List.length_take]; rfl)) ?_; (with_reducible refine (frac_Mode.calls a0_4 false _ A4.out).mono ?_); rintro e w' ⟨rfl, ⟨nd, rfl⟩⟩; refine ⟨_, rfl, ?_⟩))
    go_ret
    exact ⟨by first | rfl | (simp [errW_none, errW_some] <;> rfl) | (simp [*, errW_none, errW_some] <;> rfl), by repeat (first | (with_reducible first | exact HB.out | apply bA | apply bD | apply b1 | refine bS ?_ GE142.out) | exact HB.out)⟩
  subst c5
  have H1 : ((table_schemes.f k l0_0 l0_1 l0_2 a0_3 a0_4).bind fun t145 => ((table_contribs.f k l0_0 l0_1 l0_2 a0_3 a0_4).bind fun t146 => ((table_kinds.f k l0_0 l0_1 l0_2 a0_3 a0_4).bind fun t147 => (if t145 = 0 then (if t146 = 0 then (if t147 = 0 then (some 0) else (some t147)) else (some t146)) else (some t145))))) = some r := by rw [if_pos rfl] at H; exact H
  clear H
  have H := H1
  clear H1
  replace H := Option.bind_eq_some_iff.mp H
  obtain ⟨t145, A60, H⟩ := H
  replace H : ((table_contribs.f k l0_0 l0_1 l0_2 a0_3 a0_4).bind fun t146 => ((table_kinds.f k l0_0 l0_1 l0_2 a0_3 a0_4).bind fun t147 => (if t145 = 0 then (if t146 = 0 then (if t147 = 0 then (some 0) else (some t147)) else (some t146)) else (some t145)))) = some r := H
  have A6 := AM A60
  clear A60
  replace H := Option.bind_eq_some_iff.mp H
  obtain ⟨t146, A70, H⟩ := H
  replace H : ((table_kinds.f k l0_0 l0_1 l0_2 a0_3 a0_4).bind fun t147 => (if t145 = 0 then (if t146 = 0 then (if t147 = 0 then (some 0) else (some t147)) else (some t146)) else (some t145))) = some r := H
  have A7 := AM A70
  clear A70
  replace H := Option.bind_eq_some_iff.mp H
  obtain ⟨t147, A80, H⟩ := H
  replace H : (if t145 = 0 then (if t146 = 0 then (if t147 = 0 then (some 0) else (some t147)) else (some t146)) else (some t145)) = some r := H
  have A8 := AM A80
  clear A80
  by_cases c9 : t145 = 0
  rotate_left
  · rw [if_neg c9] at H
    have c9b0 : (t145 == 0) = false := beq_eq_false_iff_ne.mpr c9
    have c9b1 : (t145 != 0) = true := bne_iff_ne.mpr c9
    obtain rfl := Option.some.inj H
    go_enter Tryd.func9, Tryd.ntmps9
    try go_wp2_with (first | ((with_reducible refine gD (N := 1) rfl ?_); refine bE ?hg (N := 1) ?hd (cs := #[.slice A0_0 l0_0.length c0_0, .slice A0_1 l0_1.length c0_1, .slice A0_2 l0_2.length c0_2, .int .i64 a0_3, .int .i64 a0_4]) (t := 26) ?hr ?_; (case hd => rfl); (case hg => rfl); (case hr => first | (go_simp; done) | (go_simp; rfl)); intro gb142 hg w30 hbox hb; have n0_ := AM (bT bQ hb); have n1_ := AM (hbox); have n2_ := AM ((by rw [hg]; exact (bZ bQ) : w.heap.size ≤ gb142)); have n3_ := AM ((by rw [hg]; exact (bZ bQ) : w.heap.size ≤ gb142)); clear HB; have HB := n0_; have BK142 := n1_; have GW142 := n2_; have GE142 := n3_; clear n0_ n1_ n2_ n3_; clear hb hbox hg; obtain ⟨_, _, _, _, _, _, _, _, _, _⟩ := bX5 BK142.out) | ((with_reducible refine gC (f := 20) rfl ?_); refine gL (some 7) rfl rfl Tryd.func20 (by kernel_rfl) rfl #[.int .i64 a0_3] rfl (by (try simp only [List.map_toArray, List.map_cons, List.map_nil]); first | done | rfl | (simp only [List.length_drop, List.length_take]; rfl)) ?_; (with_reducible refine (frac_Rate.calls a0_3 true _ A2.out).mono ?_); rintro e w' ⟨rfl, ⟨nd, rfl⟩⟩; refine ⟨_, rfl, ?_⟩) | ((with_reducible refine gC (f := 21) rfl ?_); refine gL (some 11) rfl rfl Tryd.func21 (by kernel_rfl) rfl #[.int .i64 a0_4] rfl (by (try simp only [List.map_toArray, List.map_cons, List.map_nil]); first | done | rfl | (simp only [List.length_drop, List.length_take]; rfl)) ?_; (with_reducible refine (frac_Mode.calls a0_4 true _ A4.out).mono ?_); rintro e w' ⟨rfl, ⟨nd, rfl⟩⟩; refine ⟨_, rfl, ?_⟩))
    (try (rw [drewN_self w30]; generalize hq_ : World.drewN w30 _ = w30; have n0_ : Aside0 (w30.heap[gb142]? = some (.cells #[.slice A0_0 l0_0.length c0_0, .slice A0_1 l0_1.length c0_1, .slice A0_2 l0_2.length c0_2, .int .i64 a0_3, .int .i64 a0_4] 26 (0, 0))) := ⟨by rw [← hq_]; exact (kW BK142)⟩; have n1_ : Aside0 (Below w.heap.size w w30) := ⟨by rw [← hq_]; exact bQ⟩; clear BK142 HB hq_; have BK142 := n0_; have HB := n1_; clear n0_ n1_))
    have n0_ := AM (k1_ BK142.out)
    have n1_ := AM (b1 HB.out)
    clear BK142
    clear HB
    have BK142 := n0_
    have HB := n1_
    clear n0_ n1_
    refine start_ (n := 8) (S := fun w' => w'.cell? ⟨gb142, 0, none⟩ = some (.slice A0_0 l0_0.length c0_0) ∧ w'.cell? ⟨gb142, 1, none⟩ = some (.slice A0_1 l0_1.length c0_1) ∧ w'.cell? ⟨gb142, 2, none⟩ = some (.slice A0_2 l0_2.length c0_2) ∧ w'.cell? ⟨gb142, 3, none⟩ = some (.int .i64 a0_3) ∧ w'.cell? ⟨gb142, 4, none⟩ = some (.int .i64 a0_4)) (ds := []) #[false, false, false, false, false, false, false, false] (by kernel_rfl) rfl rfl ⟨(bC BK142.out 0).trans rfl, (bC BK142.out 1).trans rfl, (bC BK142.out 2).trans rfl, (bC BK142.out 3).trans rfl, (bC BK142.out 4).trans rfl⟩ (fun hHeld => ?_)
    generalize w30.drew = w32 at BK142 HB hHeld ⊢
    refine pure_ (i := 7) (N := some 20) (v := ?_) (a' := ?_) #[false, false, false, false, false, false, false, true] rfl rfl (by kernel_rfl) (fun _ _ _ h => h) (Or.inl ⟨by rfl, ?_⟩) ?_ ?_
    rotate_left
    · intro w'
      go_simp
      with_reducible rfl
    rotate_left
    · simp only [Act.put, List.setIfInBounds_toArray, List.set_cons_zero, List.set_cons_succ, i64_w, i32_w]
      rfl
    refine take_ (i := 0) (N := some 13) (v := ?_) (a' := ?_) #[true, false, false, false, false, false, false, true] rfl rfl (by kernel_rfl) (fun _ _ _ h => h) (Or.inl ⟨by rfl, ?_⟩) hHeld ?_ ?_
    rotate_left
    · rintro w' ⟨s0, s1, s2, s3, s4⟩
      go_simp
      with_reducible rfl
    rotate_left
    · simp only [Act.put, List.setIfInBounds_toArray, List.set_cons_zero, List.set_cons_succ, i64_w, i32_w]
      rfl
    refine take_ (i := 2) (N := some 15) (v := ?_) (a' := ?_) #[true, false, true, false, false, false, false, true] rfl rfl (by kernel_rfl) (fun _ _ _ h => h) (Or.inl ⟨by rfl, ?_⟩) hHeld ?_ ?_
    rotate_left
    · rintro w' ⟨s0, s1, s2, s3, s4⟩
      go_simp
      with_reducible rfl
    rotate_left
    · simp only [Act.put, List.setIfInBounds_toArray, List.set_cons_zero, List.set_cons_succ, i64_w, i32_w]
      rfl
    refine take_ (i := 4) (N := some 17) (v := ?_) (a' := ?_) #[true, false, true, false, true, false, false, true] rfl rfl (by kernel_rfl) (fun _ _ _ h => h) (Or.inl ⟨by rfl, ?_⟩) hHeld ?_ ?_
    rotate_left
    · rintro w' ⟨s0, s1, s2, s3, s4⟩
      go_simp
      with_reducible rfl
    rotate_left
    · simp only [Act.put, List.setIfInBounds_toArray, List.set_cons_zero, List.set_cons_succ, i64_w, i32_w]
      rfl
    refine one_ (i := 1) (N := some 14) #[true, true, true, false, true, false, false, true] rfl rfl (by kernel_rfl) (by decide) (fun K hK => ?_)
    refine goes_ Tryd.func22 (by kernel_rfl) rfl #[.agg #[.slice A0_0 l0_0.length c0_0, .slice A0_1 l0_1.length c0_1, .slice A0_2 l0_2.length c0_2, .int .i64 a0_3, .int .i64 a0_4]] (by rfl) rfl rfl (by (try simp only [List.map_toArray, List.map_cons, List.map_nil]); first | done | rfl | (simp only [List.length_drop, List.length_take]; rfl)) ?_
    with_reducible refine (table_schemes.calls k _ _ l0_0 _ _ l0_1 _ _ l0_2 a0_3 a0_4 t145 _ ?side1 ?side2 ?side3 ?side4 ?side5 ?side6 A6.out).mono ?_
    (case side1 => exact cQ HR0_0 HB)
    (case side2 => exact HC0_0.out)
    (case side3 => exact cQ HR0_1 HB)
    (case side4 => exact HC0_1.out)
    (case side5 => exact cQ HR0_2 HB)
    (case side6 => exact HC0_2.out)
    rintro e w33 ⟨rfl, hb⟩
    refine ⟨_, rfl, ?_⟩
    have n0_ := AM (kB (g := gb142) (o := .cells #[.slice A0_0 l0_0.length c0_0, .slice A0_1 l0_1.length c0_1, .slice A0_2 l0_2.length c0_2, .int .i64 a0_3, .int .i64 a0_4] 26 (0, 0)) (kW BK142) hb)
    have n1_ := AM (bT bQ hb)
    clear BK142
    clear HB
    have BK142 := n0_
    have HB := n1_
    clear n0_ n1_
    (try clear hb)
    (try clear hb2)
    (try clear hk)
    (try clear hi)
    refine hK.out _ _ ⟨(bC BK142.out 0).trans rfl, (bC BK142.out 1).trans rfl, (bC BK142.out 2).trans rfl, (bC BK142.out 3).trans rfl, (bC BK142.out 4).trans rfl⟩ (fun hHeld => ?_)
    clear hK K
    refine norm_ (a' := ?_) ?_ ?_
    rotate_left
    · show Act.put _ (some 14) _ = _
      simp only [Act.put, List.setIfInBounds_toArray, List.set_cons_zero, List.set_cons_succ, i64_w, i32_w]
      rfl
    refine one_ (i := 3) (N := some 16) #[true, true, true, true, true, false, false, true] rfl rfl (by kernel_rfl) (by decide) (fun K hK => ?_)
    refine goes_ Tryd.func23 (by kernel_rfl) rfl #[.agg #[.slice A0_0 l0_0.length c0_0, .slice A0_1 l0_1.length c0_1, .slice A0_2 l0_2.length c0_2, .int .i64 a0_3, .int .i64 a0_4]] (by rfl) rfl rfl (by (try simp only [List.map_toArray, List.map_cons, List.map_nil]); first | done | rfl | (simp only [List.length_drop, List.length_take]; rfl)) ?_
    with_reducible refine (table_contribs.calls k _ _ l0_0 _ _ l0_1 _ _ l0_2 a0_3 a0_4 t146 _ ?side1 ?side2 ?side3 ?side4 ?side5 ?side6 A7.out).mono ?_
    (case side1 => exact cQ HR0_0 HB)
    (case side2 => exact HC0_0.out)
    (case side3 => exact cQ HR0_1 HB)
    (case side4 => exact HC0_1.out)
    (case side5 => exact cQ HR0_2 HB)
    (case side6 => exact HC0_2.out)
    rintro e w34 ⟨rfl, hb⟩
    refine ⟨_, rfl, ?_⟩
    have n0_ := AM (kB (g := gb142) (o := .cells #[.slice A0_0 l0_0.length c0_0, .slice A0_1 l0_1.length c0_1, .slice A0_2 l0_2.length c0_2, .int .i64 a0_3, .int .i64 a0_4] 26 (0, 0)) (kW BK142) hb)
    have n1_ := AM (bT bQ hb)
    clear BK142
    clear HB
    have BK142 := n0_
    have HB := n1_
    clear n0_ n1_
    (try clear hb)
    (try clear hb2)
    (try clear hk)
    (try clear hi)
    refine hK.out _ _ ⟨(bC BK142.out 0).trans rfl, (bC BK142.out 1).trans rfl, (bC BK142.out 2).trans rfl, (bC BK142.out 3).trans rfl, (bC BK142.out 4).trans rfl⟩ (fun hHeld => ?_)
    clear hK K
    refine norm_ (a' := ?_) ?_ ?_
    rotate_left
    · show Act.put _ (some 16) _ = _
      simp only [Act.put, List.setIfInBounds_toArray, List.set_cons_zero, List.set_cons_succ, i64_w, i32_w]
      rfl
    refine one_ (i := 5) (N := some 18) #[true, true, true, true, true, true, false, true] rfl rfl (by kernel_rfl) (by decide) (fun K hK => ?_)
    refine goes_ Tryd.func24 (by kernel_rfl) rfl #[.agg #[.slice A0_0 l0_0.length c0_0, .slice A0_1 l0_1.length c0_1, .slice A0_2 l0_2.length c0_2, .int .i64 a0_3, .int .i64 a0_4]] (by rfl) rfl rfl (by (try simp only [List.map_toArray, List.map_cons, List.map_nil]); first | done | rfl | (simp only [List.length_drop, List.length_take]; rfl)) ?_
    with_reducible refine (table_kinds.calls k _ _ l0_0 _ _ l0_1 _ _ l0_2 a0_3 a0_4 t147 _ ?side1 ?side2 ?side3 ?side4 ?side5 ?side6 A8.out).mono ?_
    (case side1 => exact cQ HR0_0 HB)
    (case side2 => exact HC0_0.out)
    (case side3 => exact cQ HR0_1 HB)
    (case side4 => exact HC0_1.out)
    (case side5 => exact cQ HR0_2 HB)
    (case side6 => exact HC0_2.out)
    rintro e w35 ⟨rfl, hb⟩
    refine ⟨_, rfl, ?_⟩
    have n0_ := AM (kB (g := gb142) (o := .cells #[.slice A0_0 l0_0.length c0_0, .slice A0_1 l0_1.length c0_1, .slice A0_2 l0_2.length c0_2, .int .i64 a0_3, .int .i64 a0_4] 26 (0, 0)) (kW BK142) hb)
    have n1_ := AM (bT bQ hb)
    clear BK142
    clear HB
    have BK142 := n0_
    have HB := n1_
    clear n0_ n1_
    (try clear hb)
    (try clear hb2)
    (try clear hk)
    (try clear hi)
    refine hK.out _ _ ⟨(bC BK142.out 0).trans rfl, (bC BK142.out 1).trans rfl, (bC BK142.out 2).trans rfl, (bC BK142.out 3).trans rfl, (bC BK142.out 4).trans rfl⟩ (fun hHeld => ?_)
    clear hK K
    refine norm_ (a' := ?_) ?_ ?_
    rotate_left
    · show Act.put _ (some 18) _ = _
      simp only [Act.put, List.setIfInBounds_toArray, List.set_cons_zero, List.set_cons_succ, i64_w, i32_w]
      rfl
    refine pure_ (i := 6) (N := some 19) (v := ?_) (a' := ?_) #[true, true, true, true, true, true, true, true] rfl rfl (by kernel_rfl) (fun _ _ _ h => h) (Or.inl ⟨by rfl, ?_⟩) ?_ ?_
    rotate_left
    · intro w'
      go_simp
      with_reducible rfl
    rotate_left
    · simp only [Act.put, List.setIfInBounds_toArray, List.set_cons_zero, List.set_cons_succ, i64_w, i32_w]
      rfl
    refine done_ (by kernel_rfl) ?_
    have hix0 : ∀ w, (Instr.index 54 (.agg #[.int .i64 t145, .int .i64 t146, .int .i64 t147]) (.int .i64 0)).run Tryd.prog w = .ok (.int .i64 t145) w := fun _ => by kernel_rfl
    have hix1 : ∀ w, (Instr.index 54 (.agg #[.int .i64 t145, .int .i64 t146, .int .i64 t147]) (.int .i64 1)).run Tryd.prog w = .ok (.int .i64 t146) w := fun _ => by kernel_rfl
    have hix2 : ∀ w, (Instr.index 54 (.agg #[.int .i64 t145, .int .i64 t146, .int .i64 t147]) (.int .i64 2)).run Tryd.prog w = .ok (.int .i64 t147) w := fun _ => by kernel_rfl
    try go_wp2
    go_loopg [20] 1 (fun kq v20 w' => ((v20 = .int .i64 0 ∧ kq = 1)) ∧ Aside0 (Below w.heap.size w w'))
    case atStart => exact ⟨⟨rfl, rfl⟩, ⟨by repeat (first | (with_reducible first | exact HB.out | apply bA | apply bD | apply b1 | refine bS ?_ GE142.out) | exact HB.out)⟩⟩
    case round =>
      obtain ⟨⟨rfl, rfl⟩, HB⟩ := hrel
      go_wp2
      go_ret
      exact ⟨by first | rfl | (simp [*]; done), HB.out⟩
  rw [if_pos c9] at H
  have c9b0 : (t145 == 0) = true := beq_iff_eq.mpr c9
  have c9b1 : (t145 != 0) = false := bne_eq_false_iff_eq.mpr c9
  clear c9
  by_cases c10 : t146 = 0
  rotate_left
  · rw [if_neg c10] at H
    have c10b0 : (t146 == 0) = false := beq_eq_false_iff_ne.mpr c10
    have c10b1 : (t146 != 0) = true := bne_iff_ne.mpr c10
    obtain rfl := Option.some.inj H
    go_enter Tryd.func9, Tryd.ntmps9
    try go_wp2_with (first | ((with_reducible refine gD (N := 1) rfl ?_); refine bE ?hg (N := 1) ?hd (cs := #[.slice A0_0 l0_0.length c0_0, .slice A0_1 l0_1.length c0_1, .slice A0_2 l0_2.length c0_2, .int .i64 a0_3, .int .i64 a0_4]) (t := 26) ?hr ?_; (case hd => rfl); (case hg => rfl); (case hr => first | (go_simp; done) | (go_simp; rfl)); intro gb142 hg w24 hbox hb; have n0_ := AM (bT bQ hb); have n1_ := AM (hbox); have n2_ := AM ((by rw [hg]; exact (bZ bQ) : w.heap.size ≤ gb142)); have n3_ := AM ((by rw [hg]; exact (bZ bQ) : w.heap.size ≤ gb142)); clear HB; have HB := n0_; have BK142 := n1_; have GW142 := n2_; have GE142 := n3_; clear n0_ n1_ n2_ n3_; clear hb hbox hg; obtain ⟨_, _, _, _, _, _, _, _, _, _⟩ := bX5 BK142.out) | ((with_reducible refine gC (f := 20) rfl ?_); refine gL (some 7) rfl rfl Tryd.func20 (by kernel_rfl) rfl #[.int .i64 a0_3] rfl (by (try simp only [List.map_toArray, List.map_cons, List.map_nil]); first | done | rfl | (simp only [List.length_drop, List.length_take]; rfl)) ?_; (with_reducible refine (frac_Rate.calls a0_3 true _ A2.out).mono ?_); rintro e w' ⟨rfl, ⟨nd, rfl⟩⟩; refine ⟨_, rfl, ?_⟩) | ((with_reducible refine gC (f := 21) rfl ?_); refine gL (some 11) rfl rfl Tryd.func21 (by kernel_rfl) rfl #[.int .i64 a0_4] rfl (by (try simp only [List.map_toArray, List.map_cons, List.map_nil]); first | done | rfl | (simp only [List.length_drop, List.length_take]; rfl)) ?_; (with_reducible refine (frac_Mode.calls a0_4 true _ A4.out).mono ?_); rintro e w' ⟨rfl, ⟨nd, rfl⟩⟩; refine ⟨_, rfl, ?_⟩))
    (try (rw [drewN_self w24]; generalize hq_ : World.drewN w24 _ = w24; have n0_ : Aside0 (w24.heap[gb142]? = some (.cells #[.slice A0_0 l0_0.length c0_0, .slice A0_1 l0_1.length c0_1, .slice A0_2 l0_2.length c0_2, .int .i64 a0_3, .int .i64 a0_4] 26 (0, 0))) := ⟨by rw [← hq_]; exact (kW BK142)⟩; have n1_ : Aside0 (Below w.heap.size w w24) := ⟨by rw [← hq_]; exact bQ⟩; clear BK142 HB hq_; have BK142 := n0_; have HB := n1_; clear n0_ n1_))
    have n0_ := AM (k1_ BK142.out)
    have n1_ := AM (b1 HB.out)
    clear BK142
    clear HB
    have BK142 := n0_
    have HB := n1_
    clear n0_ n1_
    refine start_ (n := 8) (S := fun w' => w'.cell? ⟨gb142, 0, none⟩ = some (.slice A0_0 l0_0.length c0_0) ∧ w'.cell? ⟨gb142, 1, none⟩ = some (.slice A0_1 l0_1.length c0_1) ∧ w'.cell? ⟨gb142, 2, none⟩ = some (.slice A0_2 l0_2.length c0_2) ∧ w'.cell? ⟨gb142, 3, none⟩ = some (.int .i64 a0_3) ∧ w'.cell? ⟨gb142, 4, none⟩ = some (.int .i64 a0_4)) (ds := []) #[false, false, false, false, false, false, false, false] (by kernel_rfl) rfl rfl ⟨(bC BK142.out 0).trans rfl, (bC BK142.out 1).trans rfl, (bC BK142.out 2).trans rfl, (bC BK142.out 3).trans rfl, (bC BK142.out 4).trans rfl⟩ (fun hHeld => ?_)
    generalize w24.drew = w26 at BK142 HB hHeld ⊢
    refine pure_ (i := 7) (N := some 20) (v := ?_) (a' := ?_) #[false, false, false, false, false, false, false, true] rfl rfl (by kernel_rfl) (fun _ _ _ h => h) (Or.inl ⟨by rfl, ?_⟩) ?_ ?_
    rotate_left
    · intro w'
      go_simp
      with_reducible rfl
    rotate_left
    · simp only [Act.put, List.setIfInBounds_toArray, List.set_cons_zero, List.set_cons_succ, i64_w, i32_w]
      rfl
    refine take_ (i := 0) (N := some 13) (v := ?_) (a' := ?_) #[true, false, false, false, false, false, false, true] rfl rfl (by kernel_rfl) (fun _ _ _ h => h) (Or.inl ⟨by rfl, ?_⟩) hHeld ?_ ?_
    rotate_left
    · rintro w' ⟨s0, s1, s2, s3, s4⟩
      go_simp
      with_reducible rfl
    rotate_left
    · simp only [Act.put, List.setIfInBounds_toArray, List.set_cons_zero, List.set_cons_succ, i64_w, i32_w]
      rfl
    refine take_ (i := 2) (N := some 15) (v := ?_) (a' := ?_) #[true, false, true, false, false, false, false, true] rfl rfl (by kernel_rfl) (fun _ _ _ h => h) (Or.inl ⟨by rfl, ?_⟩) hHeld ?_ ?_
    rotate_left
    · rintro w' ⟨s0, s1, s2, s3, s4⟩
      go_simp
      with_reducible rfl
    rotate_left
    · simp only [Act.put, List.setIfInBounds_toArray, List.set_cons_zero, List.set_cons_succ, i64_w, i32_w]
      rfl
    refine take_ (i := 4) (N := some 17) (v := ?_) (a' := ?_) #[true, false, true, false, true, false, false, true] rfl rfl (by kernel_rfl) (fun _ _ _ h => h) (Or.inl ⟨by rfl, ?_⟩) hHeld ?_ ?_
    rotate_left
    · rintro w' ⟨s0, s1, s2, s3, s4⟩
      go_simp
      with_reducible rfl
    rotate_left
    · simp only [Act.put, List.setIfInBounds_toArray, List.set_cons_zero, List.set_cons_succ, i64_w, i32_w]
      rfl
    refine one_ (i := 1) (N := some 14) #[true, true, true, false, true, false, false, true] rfl rfl (by kernel_rfl) (by decide) (fun K hK => ?_)
    refine goes_ Tryd.func22 (by kernel_rfl) rfl #[.agg #[.slice A0_0 l0_0.length c0_0, .slice A0_1 l0_1.length c0_1, .slice A0_2 l0_2.length c0_2, .int .i64 a0_3, .int .i64 a0_4]] (by rfl) rfl rfl (by (try simp only [List.map_toArray, List.map_cons, List.map_nil]); first | done | rfl | (simp only [List.length_drop, List.length_take]; rfl)) ?_
    with_reducible refine (table_schemes.calls k _ _ l0_0 _ _ l0_1 _ _ l0_2 a0_3 a0_4 t145 _ ?side1 ?side2 ?side3 ?side4 ?side5 ?side6 A6.out).mono ?_
    (case side1 => exact cQ HR0_0 HB)
    (case side2 => exact HC0_0.out)
    (case side3 => exact cQ HR0_1 HB)
    (case side4 => exact HC0_1.out)
    (case side5 => exact cQ HR0_2 HB)
    (case side6 => exact HC0_2.out)
    rintro e w27 ⟨rfl, hb⟩
    refine ⟨_, rfl, ?_⟩
    have n0_ := AM (kB (g := gb142) (o := .cells #[.slice A0_0 l0_0.length c0_0, .slice A0_1 l0_1.length c0_1, .slice A0_2 l0_2.length c0_2, .int .i64 a0_3, .int .i64 a0_4] 26 (0, 0)) (kW BK142) hb)
    have n1_ := AM (bT bQ hb)
    clear BK142
    clear HB
    have BK142 := n0_
    have HB := n1_
    clear n0_ n1_
    (try clear hb)
    (try clear hb2)
    (try clear hk)
    (try clear hi)
    refine hK.out _ _ ⟨(bC BK142.out 0).trans rfl, (bC BK142.out 1).trans rfl, (bC BK142.out 2).trans rfl, (bC BK142.out 3).trans rfl, (bC BK142.out 4).trans rfl⟩ (fun hHeld => ?_)
    clear hK K
    refine norm_ (a' := ?_) ?_ ?_
    rotate_left
    · show Act.put _ (some 14) _ = _
      simp only [Act.put, List.setIfInBounds_toArray, List.set_cons_zero, List.set_cons_succ, i64_w, i32_w]
      rfl
    refine one_ (i := 3) (N := some 16) #[true, true, true, true, true, false, false, true] rfl rfl (by kernel_rfl) (by decide) (fun K hK => ?_)
    refine goes_ Tryd.func23 (by kernel_rfl) rfl #[.agg #[.slice A0_0 l0_0.length c0_0, .slice A0_1 l0_1.length c0_1, .slice A0_2 l0_2.length c0_2, .int .i64 a0_3, .int .i64 a0_4]] (by rfl) rfl rfl (by (try simp only [List.map_toArray, List.map_cons, List.map_nil]); first | done | rfl | (simp only [List.length_drop, List.length_take]; rfl)) ?_
    with_reducible refine (table_contribs.calls k _ _ l0_0 _ _ l0_1 _ _ l0_2 a0_3 a0_4 t146 _ ?side1 ?side2 ?side3 ?side4 ?side5 ?side6 A7.out).mono ?_
    (case side1 => exact cQ HR0_0 HB)
    (case side2 => exact HC0_0.out)
    (case side3 => exact cQ HR0_1 HB)
    (case side4 => exact HC0_1.out)
    (case side5 => exact cQ HR0_2 HB)
    (case side6 => exact HC0_2.out)
    rintro e w28 ⟨rfl, hb⟩
    refine ⟨_, rfl, ?_⟩
    have n0_ := AM (kB (g := gb142) (o := .cells #[.slice A0_0 l0_0.length c0_0, .slice A0_1 l0_1.length c0_1, .slice A0_2 l0_2.length c0_2, .int .i64 a0_3, .int .i64 a0_4] 26 (0, 0)) (kW BK142) hb)
    have n1_ := AM (bT bQ hb)
    clear BK142
    clear HB
    have BK142 := n0_
    have HB := n1_
    clear n0_ n1_
    (try clear hb)
    (try clear hb2)
    (try clear hk)
    (try clear hi)
    refine hK.out _ _ ⟨(bC BK142.out 0).trans rfl, (bC BK142.out 1).trans rfl, (bC BK142.out 2).trans rfl, (bC BK142.out 3).trans rfl, (bC BK142.out 4).trans rfl⟩ (fun hHeld => ?_)
    clear hK K
    refine norm_ (a' := ?_) ?_ ?_
    rotate_left
    · show Act.put _ (some 16) _ = _
      simp only [Act.put, List.setIfInBounds_toArray, List.set_cons_zero, List.set_cons_succ, i64_w, i32_w]
      rfl
    refine one_ (i := 5) (N := some 18) #[true, true, true, true, true, true, false, true] rfl rfl (by kernel_rfl) (by decide) (fun K hK => ?_)
    refine goes_ Tryd.func24 (by kernel_rfl) rfl #[.agg #[.slice A0_0 l0_0.length c0_0, .slice A0_1 l0_1.length c0_1, .slice A0_2 l0_2.length c0_2, .int .i64 a0_3, .int .i64 a0_4]] (by rfl) rfl rfl (by (try simp only [List.map_toArray, List.map_cons, List.map_nil]); first | done | rfl | (simp only [List.length_drop, List.length_take]; rfl)) ?_
    with_reducible refine (table_kinds.calls k _ _ l0_0 _ _ l0_1 _ _ l0_2 a0_3 a0_4 t147 _ ?side1 ?side2 ?side3 ?side4 ?side5 ?side6 A8.out).mono ?_
    (case side1 => exact cQ HR0_0 HB)
    (case side2 => exact HC0_0.out)
    (case side3 => exact cQ HR0_1 HB)
    (case side4 => exact HC0_1.out)
    (case side5 => exact cQ HR0_2 HB)
    (case side6 => exact HC0_2.out)
    rintro e w29 ⟨rfl, hb⟩
    refine ⟨_, rfl, ?_⟩
    have n0_ := AM (kB (g := gb142) (o := .cells #[.slice A0_0 l0_0.length c0_0, .slice A0_1 l0_1.length c0_1, .slice A0_2 l0_2.length c0_2, .int .i64 a0_3, .int .i64 a0_4] 26 (0, 0)) (kW BK142) hb)
    have n1_ := AM (bT bQ hb)
    clear BK142
    clear HB
    have BK142 := n0_
    have HB := n1_
    clear n0_ n1_
    (try clear hb)
    (try clear hb2)
    (try clear hk)
    (try clear hi)
    refine hK.out _ _ ⟨(bC BK142.out 0).trans rfl, (bC BK142.out 1).trans rfl, (bC BK142.out 2).trans rfl, (bC BK142.out 3).trans rfl, (bC BK142.out 4).trans rfl⟩ (fun hHeld => ?_)
    clear hK K
    refine norm_ (a' := ?_) ?_ ?_
    rotate_left
    · show Act.put _ (some 18) _ = _
      simp only [Act.put, List.setIfInBounds_toArray, List.set_cons_zero, List.set_cons_succ, i64_w, i32_w]
      rfl
    refine pure_ (i := 6) (N := some 19) (v := ?_) (a' := ?_) #[true, true, true, true, true, true, true, true] rfl rfl (by kernel_rfl) (fun _ _ _ h => h) (Or.inl ⟨by rfl, ?_⟩) ?_ ?_
    rotate_left
    · intro w'
      go_simp
      with_reducible rfl
    rotate_left
    · simp only [Act.put, List.setIfInBounds_toArray, List.set_cons_zero, List.set_cons_succ, i64_w, i32_w]
      rfl
    refine done_ (by kernel_rfl) ?_
    have hix0 : ∀ w, (Instr.index 54 (.agg #[.int .i64 t145, .int .i64 t146, .int .i64 t147]) (.int .i64 0)).run Tryd.prog w = .ok (.int .i64 t145) w := fun _ => by kernel_rfl
    have hix1 : ∀ w, (Instr.index 54 (.agg #[.int .i64 t145, .int .i64 t146, .int .i64 t147]) (.int .i64 1)).run Tryd.prog w = .ok (.int .i64 t146) w := fun _ => by kernel_rfl
    have hix2 : ∀ w, (Instr.index 54 (.agg #[.int .i64 t145, .int .i64 t146, .int .i64 t147]) (.int .i64 2)).run Tryd.prog w = .ok (.int .i64 t147) w := fun _ => by kernel_rfl
    try go_wp2
    go_loopg [20] 2 (fun kq v20 w' => ((v20 = .int .i64 0 ∧ kq = 2) ∨ (v20 = .int .i64 1 ∧ kq = 1)) ∧ Aside0 (Below w.heap.size w w'))
    case atStart => exact ⟨Or.inl ⟨rfl, rfl⟩, ⟨by repeat (first | (with_reducible first | exact HB.out | apply bA | apply bD | apply b1 | refine bS ?_ GE142.out) | exact HB.out)⟩⟩
    case round =>
      obtain ⟨(⟨rfl, rfl⟩ | ⟨rfl, rfl⟩), HB⟩ := hrel
      · go_wp2
        go_roundg 1
        case measure => omega
        case rel => exact ⟨by simp, HB⟩
      · go_wp2
        go_ret
        exact ⟨by first | rfl | (simp [*]; done), HB.out⟩
  rw [if_pos c10] at H
  have c10b0 : (t146 == 0) = true := beq_iff_eq.mpr c10
  have c10b1 : (t146 != 0) = false := bne_eq_false_iff_eq.mpr c10
  clear c10
  by_cases c11 : t147 = 0
  rotate_left
  · rw [if_neg c11] at H
    have c11b0 : (t147 == 0) = false := beq_eq_false_iff_ne.mpr c11
    have c11b1 : (t147 != 0) = true := bne_iff_ne.mpr c11
    obtain rfl := Option.some.inj H
    go_enter Tryd.func9, Tryd.ntmps9
    try go_wp2_with (first | ((with_reducible refine gD (N := 1) rfl ?_); refine bE ?hg (N := 1) ?hd (cs := #[.slice A0_0 l0_0.length c0_0, .slice A0_1 l0_1.length c0_1, .slice A0_2 l0_2.length c0_2, .int .i64 a0_3, .int .i64 a0_4]) (t := 26) ?hr ?_; (case hd => rfl); (case hg => rfl); (case hr => first | (go_simp; done) | (go_simp; rfl)); intro gb142 hg w18 hbox hb; have n0_ := AM (bT bQ hb); have n1_ := AM (hbox); have n2_ := AM ((by rw [hg]; exact (bZ bQ) : w.heap.size ≤ gb142)); have n3_ := AM ((by rw [hg]; exact (bZ bQ) : w.heap.size ≤ gb142)); clear HB; have HB := n0_; have BK142 := n1_; have GW142 := n2_; have GE142 := n3_; clear n0_ n1_ n2_ n3_; clear hb hbox hg; obtain ⟨_, _, _, _, _, _, _, _, _, _⟩ := bX5 BK142.out) | ((with_reducible refine gC (f := 20) rfl ?_); refine gL (some 7) rfl rfl Tryd.func20 (by kernel_rfl) rfl #[.int .i64 a0_3] rfl (by (try simp only [List.map_toArray, List.map_cons, List.map_nil]); first | done | rfl | (simp only [List.length_drop, List.length_take]; rfl)) ?_; (with_reducible refine (frac_Rate.calls a0_3 true _ A2.out).mono ?_); rintro e w' ⟨rfl, ⟨nd, rfl⟩⟩; refine ⟨_, rfl, ?_⟩) | ((with_reducible refine gC (f := 21) rfl ?_); refine gL (some 11) rfl rfl Tryd.func21 (by kernel_rfl) rfl #[.int .i64 a0_4] rfl (by (try simp only [List.map_toArray, List.map_cons, List.map_nil]); first | done | rfl | (simp only [List.length_drop, List.length_take]; rfl)) ?_; (with_reducible refine (frac_Mode.calls a0_4 true _ A4.out).mono ?_); rintro e w' ⟨rfl, ⟨nd, rfl⟩⟩; refine ⟨_, rfl, ?_⟩))
    (try (rw [drewN_self w18]; generalize hq_ : World.drewN w18 _ = w18; have n0_ : Aside0 (w18.heap[gb142]? = some (.cells #[.slice A0_0 l0_0.length c0_0, .slice A0_1 l0_1.length c0_1, .slice A0_2 l0_2.length c0_2, .int .i64 a0_3, .int .i64 a0_4] 26 (0, 0))) := ⟨by rw [← hq_]; exact (kW BK142)⟩; have n1_ : Aside0 (Below w.heap.size w w18) := ⟨by rw [← hq_]; exact bQ⟩; clear BK142 HB hq_; have BK142 := n0_; have HB := n1_; clear n0_ n1_))
    have n0_ := AM (k1_ BK142.out)
    have n1_ := AM (b1 HB.out)
    clear BK142
    clear HB
    have BK142 := n0_
    have HB := n1_
    clear n0_ n1_
    refine start_ (n := 8) (S := fun w' => w'.cell? ⟨gb142, 0, none⟩ = some (.slice A0_0 l0_0.length c0_0) ∧ w'.cell? ⟨gb142, 1, none⟩ = some (.slice A0_1 l0_1.length c0_1) ∧ w'.cell? ⟨gb142, 2, none⟩ = some (.slice A0_2 l0_2.length c0_2) ∧ w'.cell? ⟨gb142, 3, none⟩ = some (.int .i64 a0_3) ∧ w'.cell? ⟨gb142, 4, none⟩ = some (.int .i64 a0_4)) (ds := []) #[false, false, false, false, false, false, false, false] (by kernel_rfl) rfl rfl ⟨(bC BK142.out 0).trans rfl, (bC BK142.out 1).trans rfl, (bC BK142.out 2).trans rfl, (bC BK142.out 3).trans rfl, (bC BK142.out 4).trans rfl⟩ (fun hHeld => ?_)
    generalize w18.drew = w20 at BK142 HB hHeld ⊢
    refine pure_ (i := 7) (N := some 20) (v := ?_) (a' := ?_) #[false, false, false, false, false, false, false, true] rfl rfl (by kernel_rfl) (fun _ _ _ h => h) (Or.inl ⟨by rfl, ?_⟩) ?_ ?_
    rotate_left
    · intro w'
      go_simp
      with_reducible rfl
    rotate_left
    · simp only [Act.put, List.setIfInBounds_toArray, List.set_cons_zero, List.set_cons_succ, i64_w, i32_w]
      rfl
    refine take_ (i := 0) (N := some 13) (v := ?_) (a' := ?_) #[true, false, false, false, false, false, false, true] rfl rfl (by kernel_rfl) (fun _ _ _ h => h) (Or.inl ⟨by rfl, ?_⟩) hHeld ?_ ?_
    rotate_left
    · rintro w' ⟨s0, s1, s2, s3, s4⟩
      go_simp
      with_reducible rfl
    rotate_left
    · simp only [Act.put, List.setIfInBounds_toArray, List.set_cons_zero, List.set_cons_succ, i64_w, i32_w]
      rfl
    refine take_ (i := 2) (N := some 15) (v := ?_) (a' := ?_) #[true, false, true, false, false, false, false, true] rfl rfl (by kernel_rfl) (fun _ _ _ h => h) (Or.inl ⟨by rfl, ?_⟩) hHeld ?_ ?_
    rotate_left
    · rintro w' ⟨s0, s1, s2, s3, s4⟩
      go_simp
      with_reducible rfl
    rotate_left
    · simp only [Act.put, List.setIfInBounds_toArray, List.set_cons_zero, List.set_cons_succ, i64_w, i32_w]
      rfl
    refine take_ (i := 4) (N := some 17) (v := ?_) (a' := ?_) #[true, false, true, false, true, false, false, true] rfl rfl (by kernel_rfl) (fun _ _ _ h => h) (Or.inl ⟨by rfl, ?_⟩) hHeld ?_ ?_
    rotate_left
    · rintro w' ⟨s0, s1, s2, s3, s4⟩
      go_simp
      with_reducible rfl
    rotate_left
    · simp only [Act.put, List.setIfInBounds_toArray, List.set_cons_zero, List.set_cons_succ, i64_w, i32_w]
      rfl
    refine one_ (i := 1) (N := some 14) #[true, true, true, false, true, false, false, true] rfl rfl (by kernel_rfl) (by decide) (fun K hK => ?_)
    refine goes_ Tryd.func22 (by kernel_rfl) rfl #[.agg #[.slice A0_0 l0_0.length c0_0, .slice A0_1 l0_1.length c0_1, .slice A0_2 l0_2.length c0_2, .int .i64 a0_3, .int .i64 a0_4]] (by rfl) rfl rfl (by (try simp only [List.map_toArray, List.map_cons, List.map_nil]); first | done | rfl | (simp only [List.length_drop, List.length_take]; rfl)) ?_
    with_reducible refine (table_schemes.calls k _ _ l0_0 _ _ l0_1 _ _ l0_2 a0_3 a0_4 t145 _ ?side1 ?side2 ?side3 ?side4 ?side5 ?side6 A6.out).mono ?_
    (case side1 => exact cQ HR0_0 HB)
    (case side2 => exact HC0_0.out)
    (case side3 => exact cQ HR0_1 HB)
    (case side4 => exact HC0_1.out)
    (case side5 => exact cQ HR0_2 HB)
    (case side6 => exact HC0_2.out)
    rintro e w21 ⟨rfl, hb⟩
    refine ⟨_, rfl, ?_⟩
    have n0_ := AM (kB (g := gb142) (o := .cells #[.slice A0_0 l0_0.length c0_0, .slice A0_1 l0_1.length c0_1, .slice A0_2 l0_2.length c0_2, .int .i64 a0_3, .int .i64 a0_4] 26 (0, 0)) (kW BK142) hb)
    have n1_ := AM (bT bQ hb)
    clear BK142
    clear HB
    have BK142 := n0_
    have HB := n1_
    clear n0_ n1_
    (try clear hb)
    (try clear hb2)
    (try clear hk)
    (try clear hi)
    refine hK.out _ _ ⟨(bC BK142.out 0).trans rfl, (bC BK142.out 1).trans rfl, (bC BK142.out 2).trans rfl, (bC BK142.out 3).trans rfl, (bC BK142.out 4).trans rfl⟩ (fun hHeld => ?_)
    clear hK K
    refine norm_ (a' := ?_) ?_ ?_
    rotate_left
    · show Act.put _ (some 14) _ = _
      simp only [Act.put, List.setIfInBounds_toArray, List.set_cons_zero, List.set_cons_succ, i64_w, i32_w]
      rfl
    refine one_ (i := 3) (N := some 16) #[true, true, true, true, true, false, false, true] rfl rfl (by kernel_rfl) (by decide) (fun K hK => ?_)
    refine goes_ Tryd.func23 (by kernel_rfl) rfl #[.agg #[.slice A0_0 l0_0.length c0_0, .slice A0_1 l0_1.length c0_1, .slice A0_2 l0_2.length c0_2, .int .i64 a0_3, .int .i64 a0_4]] (by rfl) rfl rfl (by (try simp only [List.map_toArray, List.map_cons, List.map_nil]); first | done | rfl | (simp only [List.length_drop, List.length_take]; rfl)) ?_
    with_reducible refine (table_contribs.calls k _ _ l0_0 _ _ l0_1 _ _ l0_2 a0_3 a0_4 t146 _ ?side1 ?side2 ?side3 ?side4 ?side5 ?side6 A7.out).mono ?_
    (case side1 => exact cQ HR0_0 HB)
    (case side2 => exact HC0_0.out)
    (case side3 => exact cQ HR0_1 HB)
    (case side4 => exact HC0_1.out)
    (case side5 => exact cQ HR0_2 HB)
    (case side6 => exact HC0_2.out)
    rintro e w22 ⟨rfl, hb⟩
    refine ⟨_, rfl, ?_⟩
    have n0_ := AM (kB (g := gb142) (o := .cells #[.slice A0_0 l0_0.length c0_0, .slice A0_1 l0_1.length c0_1, .slice A0_2 l0_2.length c0_2, .int .i64 a0_3, .int .i64 a0_4] 26 (0, 0)) (kW BK142) hb)
    have n1_ := AM (bT bQ hb)
    clear BK142
    clear HB
    have BK142 := n0_
    have HB := n1_
    clear n0_ n1_
    (try clear hb)
    (try clear hb2)
    (try clear hk)
    (try clear hi)
    refine hK.out _ _ ⟨(bC BK142.out 0).trans rfl, (bC BK142.out 1).trans rfl, (bC BK142.out 2).trans rfl, (bC BK142.out 3).trans rfl, (bC BK142.out 4).trans rfl⟩ (fun hHeld => ?_)
    clear hK K
    refine norm_ (a' := ?_) ?_ ?_
    rotate_left
    · show Act.put _ (some 16) _ = _
      simp only [Act.put, List.setIfInBounds_toArray, List.set_cons_zero, List.set_cons_succ, i64_w, i32_w]
      rfl
    refine one_ (i := 5) (N := some 18) #[true, true, true, true, true, true, false, true] rfl rfl (by kernel_rfl) (by decide) (fun K hK => ?_)
    refine goes_ Tryd.func24 (by kernel_rfl) rfl #[.agg #[.slice A0_0 l0_0.length c0_0, .slice A0_1 l0_1.length c0_1, .slice A0_2 l0_2.length c0_2, .int .i64 a0_3, .int .i64 a0_4]] (by rfl) rfl rfl (by (try simp only [List.map_toArray, List.map_cons, List.map_nil]); first | done | rfl | (simp only [List.length_drop, List.length_take]; rfl)) ?_
    with_reducible refine (table_kinds.calls k _ _ l0_0 _ _ l0_1 _ _ l0_2 a0_3 a0_4 t147 _ ?side1 ?side2 ?side3 ?side4 ?side5 ?side6 A8.out).mono ?_
    (case side1 => exact cQ HR0_0 HB)
    (case side2 => exact HC0_0.out)
    (case side3 => exact cQ HR0_1 HB)
    (case side4 => exact HC0_1.out)
    (case side5 => exact cQ HR0_2 HB)
    (case side6 => exact HC0_2.out)
    rintro e w23 ⟨rfl, hb⟩
    refine ⟨_, rfl, ?_⟩
    have n0_ := AM (kB (g := gb142) (o := .cells #[.slice A0_0 l0_0.length c0_0, .slice A0_1 l0_1.length c0_1, .slice A0_2 l0_2.length c0_2, .int .i64 a0_3, .int .i64 a0_4] 26 (0, 0)) (kW BK142) hb)
    have n1_ := AM (bT bQ hb)
    clear BK142
    clear HB
    have BK142 := n0_
    have HB := n1_
    clear n0_ n1_
    (try clear hb)
    (try clear hb2)
    (try clear hk)
    (try clear hi)
    refine hK.out _ _ ⟨(bC BK142.out 0).trans rfl, (bC BK142.out 1).trans rfl, (bC BK142.out 2).trans rfl, (bC BK142.out 3).trans rfl, (bC BK142.out 4).trans rfl⟩ (fun hHeld => ?_)
    clear hK K
    refine norm_ (a' := ?_) ?_ ?_
    rotate_left
    · show Act.put _ (some 18) _ = _
      simp only [Act.put, List.setIfInBounds_toArray, List.set_cons_zero, List.set_cons_succ, i64_w, i32_w]
      rfl
    refine pure_ (i := 6) (N := some 19) (v := ?_) (a' := ?_) #[true, true, true, true, true, true, true, true] rfl rfl (by kernel_rfl) (fun _ _ _ h => h) (Or.inl ⟨by rfl, ?_⟩) ?_ ?_
    rotate_left
    · intro w'
      go_simp
      with_reducible rfl
    rotate_left
    · simp only [Act.put, List.setIfInBounds_toArray, List.set_cons_zero, List.set_cons_succ, i64_w, i32_w]
      rfl
    refine done_ (by kernel_rfl) ?_
    have hix0 : ∀ w, (Instr.index 54 (.agg #[.int .i64 t145, .int .i64 t146, .int .i64 t147]) (.int .i64 0)).run Tryd.prog w = .ok (.int .i64 t145) w := fun _ => by kernel_rfl
    have hix1 : ∀ w, (Instr.index 54 (.agg #[.int .i64 t145, .int .i64 t146, .int .i64 t147]) (.int .i64 1)).run Tryd.prog w = .ok (.int .i64 t146) w := fun _ => by kernel_rfl
    have hix2 : ∀ w, (Instr.index 54 (.agg #[.int .i64 t145, .int .i64 t146, .int .i64 t147]) (.int .i64 2)).run Tryd.prog w = .ok (.int .i64 t147) w := fun _ => by kernel_rfl
    try go_wp2
    go_loopg [20] 3 (fun kq v20 w' => ((v20 = .int .i64 0 ∧ kq = 3) ∨ (v20 = .int .i64 1 ∧ kq = 2) ∨ (v20 = .int .i64 2 ∧ kq = 1)) ∧ Aside0 (Below w.heap.size w w'))
    case atStart => exact ⟨Or.inl ⟨rfl, rfl⟩, ⟨by repeat (first | (with_reducible first | exact HB.out | apply bA | apply bD | apply b1 | refine bS ?_ GE142.out) | exact HB.out)⟩⟩
    case round =>
      obtain ⟨(⟨rfl, rfl⟩ | ⟨rfl, rfl⟩ | ⟨rfl, rfl⟩), HB⟩ := hrel
      · go_wp2
        go_roundg 2
        case measure => omega
        case rel => exact ⟨by simp, HB⟩
      · go_wp2
        go_roundg 1
        case measure => omega
        case rel => exact ⟨by simp, HB⟩
      · go_wp2
        go_ret
        exact ⟨by first | rfl | (simp [*]; done), HB.out⟩
  rw [if_pos c11] at H
  have c11b0 : (t147 == 0) = true := beq_iff_eq.mpr c11
  have c11b1 : (t147 != 0) = false := bne_eq_false_iff_eq.mpr c11
  clear c11
  obtain rfl := Option.some.inj H
  go_enter Tryd.func9, Tryd.ntmps9
  try go_wp2_with (first | ((with_reducible refine gD (N := 1) rfl ?_); refine bE ?hg (N := 1) ?hd (cs := #[.slice A0_0 l0_0.length c0_0, .slice A0_1 l0_1.length c0_1, .slice A0_2 l0_2.length c0_2, .int .i64 a0_3, .int .i64 a0_4]) (t := 26) ?hr ?_; (case hd => rfl); (case hg => rfl); (case hr => first | (go_simp; done) | (go_simp; rfl)); intro gb142 hg w12 hbox hb; have n0_ := AM (bT bQ hb); have n1_ := AM (hbox); have n2_ := AM ((by rw [hg]; exact (bZ bQ) : w.heap.size ≤ gb142)); have n3_ := AM ((by rw [hg]; exact (bZ bQ) : w.heap.size ≤ gb142)); clear HB; have HB := n0_; have BK142 := n1_; have GW142 := n2_; have GE142 := n3_; clear n0_ n1_ n2_ n3_; clear hb hbox hg; obtain ⟨_, _, _, _, _, _, _, _, _, _⟩ := bX5 BK142.out) | ((with_reducible refine gC (f := 20) rfl ?_); refine gL (some 7) rfl rfl Tryd.func20 (by kernel_rfl) rfl #[.int .i64 a0_3] rfl (by (try simp only [List.map_toArray, List.map_cons, List.map_nil]); first | done | rfl | (simp only [List.length_drop, List.length_take]; rfl)) ?_; (with_reducible refine (frac_Rate.calls a0_3 true _ A2.out).mono ?_); rintro e w' ⟨rfl, ⟨nd, rfl⟩⟩; refine ⟨_, rfl, ?_⟩) | ((with_reducible refine gC (f := 21) rfl ?_); refine gL (some 11) rfl rfl Tryd.func21 (by kernel_rfl) rfl #[.int .i64 a0_4] rfl (by (try simp only [List.map_toArray, List.map_cons, List.map_nil]); first | done | rfl | (simp only [List.length_drop, List.length_take]; rfl)) ?_; (with_reducible refine (frac_Mode.calls a0_4 true _ A4.out).mono ?_); rintro e w' ⟨rfl, ⟨nd, rfl⟩⟩; refine ⟨_, rfl, ?_⟩))
  (try (rw [drewN_self w12]; generalize hq_ : World.drewN w12 _ = w12; have n0_ : Aside0 (w12.heap[gb142]? = some (.cells #[.slice A0_0 l0_0.length c0_0, .slice A0_1 l0_1.length c0_1, .slice A0_2 l0_2.length c0_2, .int .i64 a0_3, .int .i64 a0_4] 26 (0, 0))) := ⟨by rw [← hq_]; exact (kW BK142)⟩; have n1_ : Aside0 (Below w.heap.size w w12) := ⟨by rw [← hq_]; exact bQ⟩; clear BK142 HB hq_; have BK142 := n0_; have HB := n1_; clear n0_ n1_))
  have n0_ := AM (k1_ BK142.out)
  have n1_ := AM (b1 HB.out)
  clear BK142
  clear HB
  have BK142 := n0_
  have HB := n1_
  clear n0_ n1_
  refine start_ (n := 8) (S := fun w' => w'.cell? ⟨gb142, 0, none⟩ = some (.slice A0_0 l0_0.length c0_0) ∧ w'.cell? ⟨gb142, 1, none⟩ = some (.slice A0_1 l0_1.length c0_1) ∧ w'.cell? ⟨gb142, 2, none⟩ = some (.slice A0_2 l0_2.length c0_2) ∧ w'.cell? ⟨gb142, 3, none⟩ = some (.int .i64 a0_3) ∧ w'.cell? ⟨gb142, 4, none⟩ = some (.int .i64 a0_4)) (ds := []) #[false, false, false, false, false, false, false, false] (by kernel_rfl) rfl rfl ⟨(bC BK142.out 0).trans rfl, (bC BK142.out 1).trans rfl, (bC BK142.out 2).trans rfl, (bC BK142.out 3).trans rfl, (bC BK142.out 4).trans rfl⟩ (fun hHeld => ?_)
  generalize w12.drew = w14 at BK142 HB hHeld ⊢
  refine pure_ (i := 7) (N := some 20) (v := ?_) (a' := ?_) #[false, false, false, false, false, false, false, true] rfl rfl (by kernel_rfl) (fun _ _ _ h => h) (Or.inl ⟨by rfl, ?_⟩) ?_ ?_
  rotate_left
  · intro w'
    go_simp
    with_reducible rfl
  rotate_left
  · simp only [Act.put, List.setIfInBounds_toArray, List.set_cons_zero, List.set_cons_succ, i64_w, i32_w]
    rfl
  refine take_ (i := 0) (N := some 13) (v := ?_) (a' := ?_) #[true, false, false, false, false, false, false, true] rfl rfl (by kernel_rfl) (fun _ _ _ h => h) (Or.inl ⟨by rfl, ?_⟩) hHeld ?_ ?_
  rotate_left
  · rintro w' ⟨s0, s1, s2, s3, s4⟩
    go_simp
    with_reducible rfl
  rotate_left
  · simp only [Act.put, List.setIfInBounds_toArray, List.set_cons_zero, List.set_cons_succ, i64_w, i32_w]
    rfl
  refine take_ (i := 2) (N := some 15) (v := ?_) (a' := ?_) #[true, false, true, false, false, false, false, true] rfl rfl (by kernel_rfl) (fun _ _ _ h => h) (Or.inl ⟨by rfl, ?_⟩) hHeld ?_ ?_
  rotate_left
  · rintro w' ⟨s0, s1, s2, s3, s4⟩
    go_simp
    with_reducible rfl
  rotate_left
  · simp only [Act.put, List.setIfInBounds_toArray, List.set_cons_zero, List.set_cons_succ, i64_w, i32_w]
    rfl
  refine take_ (i := 4) (N := some 17) (v := ?_) (a' := ?_) #[true, false, true, false, true, false, false, true] rfl rfl (by kernel_rfl) (fun _ _ _ h => h) (Or.inl ⟨by rfl, ?_⟩) hHeld ?_ ?_
  rotate_left
  · rintro w' ⟨s0, s1, s2, s3, s4⟩
    go_simp
    with_reducible rfl
  rotate_left
  · simp only [Act.put, List.setIfInBounds_toArray, List.set_cons_zero, List.set_cons_succ, i64_w, i32_w]
    rfl
  refine one_ (i := 1) (N := some 14) #[true, true, true, false, true, false, false, true] rfl rfl (by kernel_rfl) (by decide) (fun K hK => ?_)
  refine goes_ Tryd.func22 (by kernel_rfl) rfl #[.agg #[.slice A0_0 l0_0.length c0_0, .slice A0_1 l0_1.length c0_1, .slice A0_2 l0_2.length c0_2, .int .i64 a0_3, .int .i64 a0_4]] (by rfl) rfl rfl (by (try simp only [List.map_toArray, List.map_cons, List.map_nil]); first | done | rfl | (simp only [List.length_drop, List.length_take]; rfl)) ?_
  with_reducible refine (table_schemes.calls k _ _ l0_0 _ _ l0_1 _ _ l0_2 a0_3 a0_4 t145 _ ?side1 ?side2 ?side3 ?side4 ?side5 ?side6 A6.out).mono ?_
  (case side1 => exact cQ HR0_0 HB)
  (case side2 => exact HC0_0.out)
  (case side3 => exact cQ HR0_1 HB)
  (case side4 => exact HC0_1.out)
  (case side5 => exact cQ HR0_2 HB)
  (case side6 => exact HC0_2.out)
  rintro e w15 ⟨rfl, hb⟩
  refine ⟨_, rfl, ?_⟩
  have n0_ := AM (kB (g := gb142) (o := .cells #[.slice A0_0 l0_0.length c0_0, .slice A0_1 l0_1.length c0_1, .slice A0_2 l0_2.length c0_2, .int .i64 a0_3, .int .i64 a0_4] 26 (0, 0)) (kW BK142) hb)
  have n1_ := AM (bT bQ hb)
  clear BK142
  clear HB
  have BK142 := n0_
  have HB := n1_
  clear n0_ n1_
  (try clear hb)
  (try clear hb2)
  (try clear hk)
  (try clear hi)
  refine hK.out _ _ ⟨(bC BK142.out 0).trans rfl, (bC BK142.out 1).trans rfl, (bC BK142.out 2).trans rfl, (bC BK142.out 3).trans rfl, (bC BK142.out 4).trans rfl⟩ (fun hHeld => ?_)
  clear hK K
  refine norm_ (a' := ?_) ?_ ?_
  rotate_left
  · show Act.put _ (some 14) _ = _
    simp only [Act.put, List.setIfInBounds_toArray, List.set_cons_zero, List.set_cons_succ, i64_w, i32_w]
    rfl
  refine one_ (i := 3) (N := some 16) #[true, true, true, true, true, false, false, true] rfl rfl (by kernel_rfl) (by decide) (fun K hK => ?_)
  refine goes_ Tryd.func23 (by kernel_rfl) rfl #[.agg #[.slice A0_0 l0_0.length c0_0, .slice A0_1 l0_1.length c0_1, .slice A0_2 l0_2.length c0_2, .int .i64 a0_3, .int .i64 a0_4]] (by rfl) rfl rfl (by (try simp only [List.map_toArray, List.map_cons, List.map_nil]); first | done | rfl | (simp only [List.length_drop, List.length_take]; rfl)) ?_
  with_reducible refine (table_contribs.calls k _ _ l0_0 _ _ l0_1 _ _ l0_2 a0_3 a0_4 t146 _ ?side1 ?side2 ?side3 ?side4 ?side5 ?side6 A7.out).mono ?_
  (case side1 => exact cQ HR0_0 HB)
  (case side2 => exact HC0_0.out)
  (case side3 => exact cQ HR0_1 HB)
  (case side4 => exact HC0_1.out)
  (case side5 => exact cQ HR0_2 HB)
  (case side6 => exact HC0_2.out)
  rintro e w16 ⟨rfl, hb⟩
  refine ⟨_, rfl, ?_⟩
  have n0_ := AM (kB (g := gb142) (o := .cells #[.slice A0_0 l0_0.length c0_0, .slice A0_1 l0_1.length c0_1, .slice A0_2 l0_2.length c0_2, .int .i64 a0_3, .int .i64 a0_4] 26 (0, 0)) (kW BK142) hb)
  have n1_ := AM (bT bQ hb)
  clear BK142
  clear HB
  have BK142 := n0_
  have HB := n1_
  clear n0_ n1_
  (try clear hb)
  (try clear hb2)
  (try clear hk)
  (try clear hi)
  refine hK.out _ _ ⟨(bC BK142.out 0).trans rfl, (bC BK142.out 1).trans rfl, (bC BK142.out 2).trans rfl, (bC BK142.out 3).trans rfl, (bC BK142.out 4).trans rfl⟩ (fun hHeld => ?_)
  clear hK K
  refine norm_ (a' := ?_) ?_ ?_
  rotate_left
  · show Act.put _ (some 16) _ = _
    simp only [Act.put, List.setIfInBounds_toArray, List.set_cons_zero, List.set_cons_succ, i64_w, i32_w]
    rfl
  refine one_ (i := 5) (N := some 18) #[true, true, true, true, true, true, false, true] rfl rfl (by kernel_rfl) (by decide) (fun K hK => ?_)
  refine goes_ Tryd.func24 (by kernel_rfl) rfl #[.agg #[.slice A0_0 l0_0.length c0_0, .slice A0_1 l0_1.length c0_1, .slice A0_2 l0_2.length c0_2, .int .i64 a0_3, .int .i64 a0_4]] (by rfl) rfl rfl (by (try simp only [List.map_toArray, List.map_cons, List.map_nil]); first | done | rfl | (simp only [List.length_drop, List.length_take]; rfl)) ?_
  with_reducible refine (table_kinds.calls k _ _ l0_0 _ _ l0_1 _ _ l0_2 a0_3 a0_4 t147 _ ?side1 ?side2 ?side3 ?side4 ?side5 ?side6 A8.out).mono ?_
  (case side1 => exact cQ HR0_0 HB)
  (case side2 => exact HC0_0.out)
  (case side3 => exact cQ HR0_1 HB)
  (case side4 => exact HC0_1.out)
  (case side5 => exact cQ HR0_2 HB)
  (case side6 => exact HC0_2.out)
  rintro e w17 ⟨rfl, hb⟩
  refine ⟨_, rfl, ?_⟩
  have n0_ := AM (kB (g := gb142) (o := .cells #[.slice A0_0 l0_0.length c0_0, .slice A0_1 l0_1.length c0_1, .slice A0_2 l0_2.length c0_2, .int .i64 a0_3, .int .i64 a0_4] 26 (0, 0)) (kW BK142) hb)
  have n1_ := AM (bT bQ hb)
  clear BK142
  clear HB
  have BK142 := n0_
  have HB := n1_
  clear n0_ n1_
  (try clear hb)
  (try clear hb2)
  (try clear hk)
  (try clear hi)
  refine hK.out _ _ ⟨(bC BK142.out 0).trans rfl, (bC BK142.out 1).trans rfl, (bC BK142.out 2).trans rfl, (bC BK142.out 3).trans rfl, (bC BK142.out 4).trans rfl⟩ (fun hHeld => ?_)
  clear hK K
  refine norm_ (a' := ?_) ?_ ?_
  rotate_left
  · show Act.put _ (some 18) _ = _
    simp only [Act.put, List.setIfInBounds_toArray, List.set_cons_zero, List.set_cons_succ, i64_w, i32_w]
    rfl
  refine pure_ (i := 6) (N := some 19) (v := ?_) (a' := ?_) #[true, true, true, true, true, true, true, true] rfl rfl (by kernel_rfl) (fun _ _ _ h => h) (Or.inl ⟨by rfl, ?_⟩) ?_ ?_
  rotate_left
  · intro w'
    go_simp
    with_reducible rfl
  rotate_left
  · simp only [Act.put, List.setIfInBounds_toArray, List.set_cons_zero, List.set_cons_succ, i64_w, i32_w]
    rfl
  refine done_ (by kernel_rfl) ?_
  have hix0 : ∀ w, (Instr.index 54 (.agg #[.int .i64 t145, .int .i64 t146, .int .i64 t147]) (.int .i64 0)).run Tryd.prog w = .ok (.int .i64 t145) w := fun _ => by kernel_rfl
  have hix1 : ∀ w, (Instr.index 54 (.agg #[.int .i64 t145, .int .i64 t146, .int .i64 t147]) (.int .i64 1)).run Tryd.prog w = .ok (.int .i64 t146) w := fun _ => by kernel_rfl
  have hix2 : ∀ w, (Instr.index 54 (.agg #[.int .i64 t145, .int .i64 t146, .int .i64 t147]) (.int .i64 2)).run Tryd.prog w = .ok (.int .i64 t147) w := fun _ => by kernel_rfl
  try go_wp2
  go_loopg [20] 4 (fun kq v20 w' => ((v20 = .int .i64 0 ∧ kq = 4) ∨ (v20 = .int .i64 1 ∧ kq = 3) ∨ (v20 = .int .i64 2 ∧ kq = 2) ∨ (v20 = .int .i64 3 ∧ kq = 1)) ∧ Aside0 (Below w.heap.size w w'))
  case atStart => exact ⟨Or.inl ⟨rfl, rfl⟩, ⟨by repeat (first | (with_reducible first | exact HB.out | apply bA | apply bD | apply b1 | refine bS ?_ GE142.out) | exact HB.out)⟩⟩
  case round =>
    obtain ⟨(⟨rfl, rfl⟩ | ⟨rfl, rfl⟩ | ⟨rfl, rfl⟩ | ⟨rfl, rfl⟩), HB⟩ := hrel
    · go_wp2
      go_roundg 3
      case measure => omega
      case rel => exact ⟨by simp, HB⟩
    · go_wp2
      go_roundg 2
      case measure => omega
      case rel => exact ⟨by simp, HB⟩
    · go_wp2
      go_roundg 1
      case measure => omega
      case rel => exact ⟨by simp, HB⟩
    · go_wp2
      go_ret
      exact ⟨by first | rfl | (simp [*]; done), HB.out⟩
end Go.Proofs.YtdllkibfikcfbaaDoor.K
