import Derived.Test.YtjljhianehhlgaaDoorQ0
import Derived.Test.YtjljhianehhlgaaDoorWTab
import Derived.Test.YtjljhianehhlgaaDoorQ2
import Derived.Test.YtjljhianehhlgaaDoorQ3
import Derived.Test.YtjljhianehhlgaaDoorS3
namespace Go.Proofs.YtjljhianehhlgaaDoor.K
open Go.RowKit Go.Proofs.YtjljhianehhlgaaDoorW.PrintWords Go.Proofs.YtjljhianehhlgaaDoorW.PrintLast Go.Proofs.YtjljhianehhlgaaDoorW.PrintMore
attribute [local go_sem] max2_int min2_int max_two min_two max_three min_three max_four min_four   -- for this text's walks alone
set_option linter.unusedVariables false
set_option linter.unusedSimpArgs false

theorem info9 : (Tryd.prog.info? 9).map (fun i => (i.zero, i.size, i.bytes)) = some (some (.string ⟨#[]⟩), 1, 16) := by kernel_rfl
/-! ### post_Book_Lines: function 19 -/
def post_Book_Lines.l0 : Nat → List ByteArray → List (S31) → Int → Int → Option (List ByteArray)
  | 0, _, _, _, _ => none
  | k + 1, x3, x7, x8, x9 => if x9 < x8 then (if 0 ≤ x9 then (if x9 < (x7.length : Int) then (if ((rd_T31 x7 x9).f0).size + 1 ≤ 9223372036854775807 then ((money_Text.f ((rd_T31 x7 x9).f1)).bind fun t131 => (if (((rd_T31 x7 x9).f0) ++ (⟨#[32]⟩ : ByteArray)).size + t131.size ≤ 9223372036854775807 then (if x3.length < 8796093022208 then (post_Book_Lines.l0 k (x3 ++ [(((rd_T31 x7 x9).f0) ++ (⟨#[32]⟩ : ByteArray)) ++ t131]) x7 x8 (wrap64 (x9 + 1))) else (none)) else (none))) else (none)) else (none)) else (none)) else (some x3)
def post_Book_Lines.f (k : Nat) (l0 : List (S31)) : Option (List ByteArray) := post_Book_Lines.l0 k ([] : List ByteArray) l0 (l0.length : Int) 0
def post_Book_Lines.T5 : Bool × List (List Nat × List Nat) := (true, [([], []), ([], []), ([1], [1]), ([2], [2]), ([], []), ([4], [4]), ([5], [5]), ([3, 6], [3, 6]), ([7], [7]), ([0, 8, 6], [0, 8]), ([9, 9, 0, 1, 2, 3, 4, 5, 6, 7, 8, 9], [0, 9])])
def post_Book_Lines.B5 : List Nat := [0, 0, 2, 6, 0, 16, 48, 126, 254, 511, 1023]
theorem post_Book_Lines.tab5 : rtab .any (opsOf Tryd.f19 5) = post_Book_Lines.T5 := by kernel_rfl
theorem post_Book_Lines.bits5 : waitsOk post_Book_Lines.T5.2 post_Book_Lines.B5 = true := by kernel_rfl
set_option maxHeartbeats 8000000 in
set_option maxRecDepth 100000 in
theorem post_Book_Lines.calls (k : Nat) (l0 : List (S31)) (r : List ByteArray) (wA : World) {g mb n : Nat} {D : M.DM} {e : Int} {more : List Value} {t : TypeId} (hbk : M.Book wA g mb n D e more t) (hn : M.Nums D) (hm : n ≤ 1000000) (hB : M.Bal D l0) (h : post_Book_Lines.f k l0 = some r) (htbA : TB wA) :
    Calls Tryd.prog 19 #[.pointer (some ⟨g, 0, none⟩)] wA fun e w' => ∃ v0_ : Value, e = .returned (v0_) ∧ Kd.R Kd.string 9 w' wA.heap.size (fun _ => True) v0_ r ∧ Below wA.heap.size wA w' := by
  refine Calls.mono (R := fun e w' => ∃ w : World, Below wA.heap.size wA w ∧ ∃ v0_ : Value, e = .returned (v0_) ∧ Kd.R Kd.string 9 w' w.heap.size (fun _ => True) v0_ r ∧ Below w.heap.size w w') ?_ (by rintro e w' ⟨w, hb, v0_, he, hR, hb2⟩; exact ⟨v0_, he, Kd.R_lower hR hb.size, bT hb hb2⟩)
  have hu31 := Tryd.underlying31
  have HBK := AM hbk
  have HBA := AM hB
  have HN := AM hn
  have HTA := AM htbA
  clear hbk hB hn htbA
  have H : (post_Book_Lines.l0 k ([] : List ByteArray) l0 (l0.length : Int) 0) = some r := h
  clear h
  have H' := AM H
  clear H
  go_enter Tryd.func19, Tryd.ntmps19
  go_wp2_with (go_at_call 13; (with_reducible refine (M.bal_u HBK.out HN.out hm HBA.out).mono ?_); rintro e w hw_; obtain ⟨A0, c0, rfl, hc0, hr0, hbA⟩ := hw_; have HWA := AM hbA; have HR0 := AM hr0; have HC0 := AM hc0; clear hc0 hr0 hbA)
  have htb : TB w := tabOf HTA.out HWA.out
  have HB := AM (Below.refl w.heap.size w)
  go_loopg [3, 9] k (fun kq v3 v9 w' => ∃ (x3_1 : List ByteArray) (x9_1 : Int), v9 = .int .i64 x9_1 ∧ Aside0 (post_Book_Lines.l0 kq x3_1 l0 (l0.length : Int) x9_1 = some r) ∧ Aside0 (kq ≤ k) ∧ Aside0 (Kd.R Kd.string 9 w' w.heap.size (fun _ => True) v3 x3_1) ∧ Aside0 (Below w.heap.size w w'))
  case atStart => exact ⟨(([] : List ByteArray)), (0), (by first | rfl | (simp; done) | (simp [*]; done)), H', ⟨Nat.le_refl _⟩, ⟨by first | exact Kd.R_nil _ _ _ _ _ | exact Kd.N_nil _ _ _ _ _ | exact Kd.V_nil _ _ _ _ _ | exact Kd.Q_nil _ _ _ _ _ | exact Kd.S_nil _ _ _ _ _⟩, ⟨by repeat (first | (with_reducible first | exact HB.out | apply bA | apply bD | apply b1) | exact HB.out)⟩⟩
  case round =>
    clear H'
    obtain ⟨x3_1, x9_1, rfl, HA, HK1, HO_3, HB⟩ := hrel
    cases gk with
    | zero => exact absurd HA.out (by simp [post_Book_Lines.l0])
    | succ k1 =>
      have H := HA.out
      clear HA
      simp only [post_Book_Lines.l0] at H
      by_cases c2 : x9_1 < (l0.length : Int)
      rotate_left
      · rw [if_neg c2] at H
        have c2b0 := decide_eq_false c2
        clear c2
        obtain rfl := Option.some.inj H
        go_wp2
        go_ret
        refine ⟨w, HWA.out, ?_⟩
        exact ⟨_, by first | rfl | (simp [errW_none, errW_some] <;> rfl) | (simp [*, errW_none, errW_some] <;> rfl), by (with_reducible repeat (first | apply rA | apply rD | apply r1x)); exact HO_3.out, by repeat (first | (with_reducible first | exact HB.out | apply bA | apply bD | apply b1) | exact HB.out)⟩

      rw [if_pos c2] at H
      have c2b0 := decide_eq_true c2
      clear c2
      by_cases c3 : 0 ≤ x9_1
      rotate_left
      · rw [if_neg c3] at H
        exact absurd H (by simp)
      rw [if_pos c3] at H
      have c3b0 := decide_eq_true c3
      clear c3
      by_cases c4 : x9_1 < (l0.length : Int)
      rotate_left
      · rw [if_neg c4] at H
        exact absurd H (by simp)
      rw [if_pos c4] at H
      have c4b0 := decide_eq_true c4
      clear c4
      by_cases c5 : ((rd_T31 l0 x9_1).f0).size + 1 ≤ 9223372036854775807
      rotate_left
      · rw [if_neg c5] at H
        exact absurd H (by simp)
      rw [if_pos c5] at H
      have c5b0 := eq_true c5
      have c5b1 : decide (((rd_T31 l0 x9_1).f0).size + 1 ≤ 9223372036854775807) = true := decide_eq_true c5
      try have c5b2 : (9223372036854775807 < ((rd_T31 l0 x9_1).f0).size + 1) = False := eq_false (Nat.not_lt.2 c5)
      replace H := Option.bind_eq_some_iff.mp H
      obtain ⟨t131, A60, H⟩ := H
      replace H : (if (((rd_T31 l0 x9_1).f0) ++ (⟨#[32]⟩ : ByteArray)).size + t131.size ≤ 9223372036854775807 then (if x3_1.length < 8796093022208 then (post_Book_Lines.l0 k1 (x3_1 ++ [(((rd_T31 l0 x9_1).f0) ++ (⟨#[32]⟩ : ByteArray)) ++ t131]) l0 (l0.length : Int) (wrap64 (x9_1 + 1))) else (none)) else (none)) = some r := H
      have A6 := AM A60
      clear A60
      by_cases c7 : (((rd_T31 l0 x9_1).f0) ++ (⟨#[32]⟩ : ByteArray)).size + t131.size ≤ 9223372036854775807
      rotate_left
      · rw [if_neg c7] at H
        exact absurd H (by simp)
      rw [if_pos c7] at H
      have c7b0 := eq_true c7
      have c7b1 : decide ((((rd_T31 l0 x9_1).f0) ++ (⟨#[32]⟩ : ByteArray)).size + t131.size ≤ 9223372036854775807) = true := decide_eq_true c7
      try have c7b2 : (9223372036854775807 < (((rd_T31 l0 x9_1).f0) ++ (⟨#[32]⟩ : ByteArray)).size + t131.size) = False := eq_false (Nat.not_lt.2 c7)
      try have c7b3 : (9223372036854775807 < (rd_T31 l0 x9_1).f0.size + 1 + t131.size) = False := eq_false (Nat.not_lt.2 (by have h := c7; simp only [ByteArray.size_append] at h; exact h))
      by_cases c8 : x3_1.length < 8796093022208
      rotate_left
      · rw [if_neg c8] at H
        exact absurd H (by simp)
      rw [if_pos c8] at H
      have LMc8 := AM c8
      clear c8
      obtain ⟨y132, hy132⟩ : ∃ y_ : List ByteArray, y_ = (x3_1 ++ [(((rd_T31 l0 x9_1).f0) ++ (⟨#[32]⟩ : ByteArray)) ++ t131]) := ⟨_, rfl⟩
      replace H : (post_Book_Lines.l0 k1 y132 l0 (l0.length : Int) (wrap64 (x9_1 + 1))) = some r := by first | (rw [hy132]; with_reducible exact H) | (have H2_ := (Option.bind_some _ _).symm.trans H; rw [hy132]; with_reducible exact H2_) | (have H2_ := (Option.bind_some _ _).symm.trans H; with_reducible exact H2_) | with_reducible exact H | (rw [hy132]; exact H) | exact H
      have Ny132 := AM hy132
      clear hy132
      have H' := AM H
      clear H
      have p129 : 0 ≤ (x9_1 : Int) := of_decide_eq_true (by first | (with_reducible assumption) | assumption)
      have q129 : x9_1 < (l0.length : Int) := of_decide_eq_true (by first | (with_reducible assumption) | assumption)
      obtain ⟨ad129, e129, hx129_0, hx129_1⟩ := at_T31 HR0.out x9_1 p129 q129
      cases e129
      replace hx129_0 := (HB.out.cell (bL w _ hx129_0)).trans hx129_0
      replace hx129_1 := (HB.out.cell (bL w _ hx129_1)).trans hx129_1
      replace p129 := eq_true p129
      replace q129 := eq_true q129
      try go_wp2_with (first | ((with_reducible refine gD (N := 5) rfl ?_); refine bE ?hg (N := 5) ?hd (cs := #[.string (⟨#[]⟩ : ByteArray), .int .i64 0]) (t := 31) ?hr ?_; (case hd => rfl); (case hg => rfl); (case hr => first | (go_simp; done) | (go_simp; rfl)); intro gb130 hg w9 hbox hb; have n0_ := AM (Kd.R_below (by (with_reducible repeat (first | apply rA | apply rD | apply r1x)); exact HO_3.out) hb); have n1_ := AM (bT bQ hb); have n2_ := AM (hbox); have n3_ := AM ((by rw [hg]; exact (bZ bQ) : w.heap.size ≤ gb130)); have n4_ := AM ((by rw [hg]; exact (bZ bQ) : w.heap.size ≤ gb130)); clear HO_3; clear HB; have HO_3 := n0_; have HB := n1_; have BK130 := n2_; have GW130 := n3_; have GE130 := n4_; clear n0_ n1_ n2_ n3_ n4_; clear hb hbox hg; obtain ⟨_, _, _, _⟩ := bX2 BK130.out))
      have n0_ : Aside0 (Kd.R Kd.string 9 ((w9.setCell ⟨gb130, 0, none⟩ (.string ((rd_T31 l0 x9_1).f0))).setCell ⟨gb130, 1, none⟩ (.int .i64 ((rd_T31 l0 x9_1).f1))) w.heap.size (fun _ => True) u3 x3_1) := ⟨by (with_reducible repeat (first | apply rA | apply rD | apply r1x)); exact Kd.R_mono (Kd.R_far (p := ⟨gb130, 1, none⟩) (Kd.R_far (p := ⟨gb130, 0, none⟩) (Kd.R_types HO_3.out BK130.out (by decide)) (fun _ hk => hk.2) (.string ((rd_T31 l0 x9_1).f0))) (fun _ hk => hk.2) (.int .i64 ((rd_T31 l0 x9_1).f1))) (fun _ hk => trivial)⟩
      have n1_ : Aside0 (((w9.setCell ⟨gb130, 0, none⟩ (.string ((rd_T31 l0 x9_1).f0))).setCell ⟨gb130, 1, none⟩ (.int .i64 ((rd_T31 l0 x9_1).f1))).heap[gb130]? = some (.cells #[.string ((rd_T31 l0 x9_1).f0), .int .i64 ((rd_T31 l0 x9_1).f1)] 31 (0, 0))) := ⟨by (with_reducible repeat (first | refine kD ?_ _ | refine k1_ ?_ | refine kA ?_ _)); refine kP (cs := #[.string ((rd_T31 l0 x9_1).f0), .int .i64 0]) ?_ 1 _ rfl; (with_reducible repeat (first | refine kD ?_ _ | refine k1_ ?_ | refine kA ?_ _)); refine kP (cs := #[.string (⟨#[]⟩ : ByteArray), .int .i64 0]) ?_ 0 _ rfl; (with_reducible repeat (first | refine kD ?_ _ | refine k1_ ?_ | refine kA ?_ _)); exact BK130.out⟩
      have n2_ : Aside0 (Below w.heap.size w ((w9.setCell ⟨gb130, 0, none⟩ (.string ((rd_T31 l0 x9_1).f0))).setCell ⟨gb130, 1, none⟩ (.int .i64 ((rd_T31 l0 x9_1).f1)))) := ⟨by repeat (first | (with_reducible first | exact HB.out | apply bA | apply bD | apply b1 | refine bS ?_ GE130.out) | exact HB.out)⟩
      (try clear HO_3)
      (try clear BK130)
      (try clear HB)
      generalize ((w9.setCell ⟨gb130, 0, none⟩ (.string ((rd_T31 l0 x9_1).f0))).setCell ⟨gb130, 1, none⟩ (.int .i64 ((rd_T31 l0 x9_1).f1))) = w11 at n0_ n1_ n2_ ⊢
      have HO_3 := n0_
      have BK130 := n1_
      have HB := n2_
      clear n0_ n1_ n2_
      have n0_ := AM (r1x HO_3.out)
      have n1_ := AM (k1_ BK130.out)
      have n2_ := AM (b1 HB.out)
      clear HO_3
      clear BK130
      clear HB
      have HO_3 := n0_
      have BK130 := n1_
      have HB := n2_
      clear n0_ n1_ n2_
      refine start_ (n := 11) (S := fun w' => w'.cell? ⟨gb130, 0, none⟩ = some (.string ((rd_T31 l0 x9_1).f0)) ∧ w'.cell? ⟨gb130, 1, none⟩ = some (.int .i64 ((rd_T31 l0 x9_1).f1))) (ds := []) #[false, false, false, false, false, false, false, false, false, false, false] (by kernel_rfl) rfl rfl ⟨(bC BK130.out 0).trans rfl, (bC BK130.out 1).trans rfl⟩ (fun hHeld => ?_); refine with_tabW post_Book_Lines.tab5 post_Book_Lines.bits5 (fun HT_ HW_ => ?_)
      generalize w11.drew = w12 at HO_3 BK130 HB hHeld ⊢
      refine pure_ (i := 0) (N := some 13) (v := ?_) (a' := ?_) #[true, false, false, false, false, false, false, false, false, false, false] rfl rfl (any_of HT_.out (by kernel_rfl)) (fun _ _ _ h => h) (Or.inl ⟨by rfl, ?_⟩) ?_ ?_
      rotate_left
      · intro w'
        go_simp
        with_reducible rfl
      rotate_left
      · simp only [Act.put, List.setIfInBounds_toArray, List.set_cons_zero, List.set_cons_succ, i64_w, i32_w]
        rfl
      refine pure_ (i := 1) (N := some 14) (v := ?_) (a' := ?_) #[true, true, false, false, false, false, false, false, false, false, false] rfl rfl (any_of HT_.out (by kernel_rfl)) (fun _ _ _ h => h) (Or.inl ⟨by rfl, ?_⟩) ?_ ?_
      rotate_left
      · intro w'
        go_simp
        with_reducible rfl
      rotate_left
      · simp only [Act.put, List.setIfInBounds_toArray, List.set_cons_zero, List.set_cons_succ, i64_w, i32_w]
        rfl
      refine pure_ (i := 4) (N := some 17) (v := ?_) (a' := ?_) #[true, true, false, false, true, false, false, false, false, false, false] rfl rfl (any_of HT_.out (by kernel_rfl)) (fun _ _ _ h => h) (Or.inl ⟨by rfl, ?_⟩) ?_ ?_
      rotate_left
      · intro w'
        go_simp
        with_reducible rfl
      rotate_left
      · simp only [Act.put, List.setIfInBounds_toArray, List.set_cons_zero, List.set_cons_succ, i64_w, i32_w]
        rfl
      refine take_ (i := 2) (N := some 15) (v := ?_) (a' := ?_) #[true, true, true, false, true, false, false, false, false, false, false] rfl rfl (take_ofW HT_.out HW_.out (by kernel_rfl)) (fun _ _ _ h => h) (Or.inl ⟨by rfl, ?_⟩) hHeld ?_ ?_
      rotate_left
      · rintro w' ⟨s0, s1⟩
        go_simp
        with_reducible rfl
      rotate_left
      · simp only [Act.put, List.setIfInBounds_toArray, List.set_cons_zero, List.set_cons_succ, i64_w, i32_w]
        rfl
      refine pure_ (i := 3) (N := some 16) (v := ?_) (a' := ?_) #[true, true, true, true, true, false, false, false, false, false, false] rfl rfl (any_of HT_.out (by kernel_rfl)) (fun _ _ _ h => h) (Or.inl ⟨by rfl, ?_⟩) ?_ ?_
      rotate_left
      · intro w'
        go_simp
        with_reducible rfl
      rotate_left
      · simp only [Act.put, List.setIfInBounds_toArray, List.set_cons_zero, List.set_cons_succ, i64_w, i32_w]
        rfl
      refine take_ (i := 5) (N := some 18) (v := ?_) (a' := ?_) #[true, true, true, true, true, true, false, false, false, false, false] rfl rfl (take_ofW HT_.out HW_.out (by kernel_rfl)) (fun _ _ _ h => h) (Or.inl ⟨by rfl, ?_⟩) hHeld ?_ ?_
      rotate_left
      · rintro w' ⟨s0, s1⟩
        go_simp
        with_reducible rfl
      rotate_left
      · simp only [Act.put, List.setIfInBounds_toArray, List.set_cons_zero, List.set_cons_succ, i64_w, i32_w]
        rfl
      refine one_ (i := 6) (N := some 19) #[true, true, true, true, true, true, true, false, false, false, false] rfl rfl (one_of HT_.out (by kernel_rfl)) (by decide) (fun K hK => ?_)
      refine goes_ Tryd.func41 (by kernel_rfl) rfl #[.int .i64 ((rd_T31 l0 x9_1).f1)] (by rfl) rfl rfl (by (try simp only [List.map_toArray, List.map_cons, List.map_nil]); first | done | rfl | (simp only [List.length_drop, List.length_take]; rfl)) ?_
      with_reducible refine (money_Text.calls ((rd_T31 l0 x9_1).f1) t131 _ A6.out (tQ htb)).mono ?_
      rintro e w13 ⟨rfl, hb⟩
      refine ⟨_, rfl, ?_⟩
      have n0_ := AM (Kd.R_below (by (with_reducible repeat (first | apply rA | apply rD | apply r1x)); exact HO_3.out) hb)
      have n1_ := AM (kB (g := gb130) (o := .cells #[.string ((rd_T31 l0 x9_1).f0), .int .i64 ((rd_T31 l0 x9_1).f1)] 31 (0, 0)) (kW BK130) hb)
      have n2_ := AM (bT bQ hb)
      clear HO_3
      clear BK130
      clear HB
      have HO_3 := n0_
      have BK130 := n1_
      have HB := n2_
      clear n0_ n1_ n2_
      (try clear hb)
      (try clear hb2)
      (try clear hk)
      (try clear hi)
      refine hK.out _ _ ⟨(bC BK130.out 0).trans rfl, (bC BK130.out 1).trans rfl⟩ (fun hHeld => ?_)
      clear hK K
      refine norm_ (a' := ?_) ?_ ?_
      rotate_left
      · show Act.put _ (some 19) _ = _
        simp only [Act.put, List.setIfInBounds_toArray, List.set_cons_zero, List.set_cons_succ, i64_w, i32_w]
        rfl
      refine pure_ (i := 7) (N := some 20) (v := ?_) (a' := ?_) #[true, true, true, true, true, true, true, true, false, false, false] rfl rfl (any_of HT_.out (by kernel_rfl)) (fun _ _ _ h => h) (Or.inl ⟨by rfl, ?_⟩) ?_ ?_
      rotate_left
      · intro w'
        go_simp
        with_reducible rfl
      rotate_left
      · simp only [Act.put, List.setIfInBounds_toArray, List.set_cons_zero, List.set_cons_succ, i64_w, i32_w]
        rfl
      refine one_ (i := 8) (N := some 21) #[true, true, true, true, true, true, true, true, true, false, false] rfl rfl (one_of HT_.out (by kernel_rfl)) (by decide) (fun K hK => ?_)
      refine value_ (w1 := ?_) (v := ?_) (by rfl) rfl ?_ ?_
      rotate_left 2
      · go_simp
        constructor
        · rfl
        · rfl
      refine hK.out _ _ ⟨(bC (kA BK130.out _) 0).trans rfl, (bC (kA BK130.out _) 1).trans rfl⟩ (fun hHeld => ?_)
      clear hK K
      refine norm_ (a' := ?_) ?_ ?_
      rotate_left
      · show Act.put _ (some 21) _ = _
        simp only [Act.put, List.setIfInBounds_toArray, List.set_cons_zero, List.set_cons_succ, i64_w, i32_w]
        rfl
      refine one_ (i := 9) (N := some 22) #[true, true, true, true, true, true, true, true, true, true, false] rfl rfl (one_of HT_.out (by kernel_rfl)) (by decide) (fun K hK => ?_)
      refine Kd.R_append_step Kd.string (w0 := w) w.heap.size (by rfl) (.tmp 13) (.tmp 21) 41 9 (.string ⟨#[]⟩) 16 rfl Tryd.underlying41 info9 rfl (by decide) (by omega) u3 x3_1 ((((rd_T31 l0 x9_1).f0) ++ (⟨#[32]⟩ : ByteArray)) ++ t131) [.string ((((rd_T31 l0 x9_1).f0) ++ (⟨#[32]⟩ : ByteArray)) ++ t131)] (fun _ => True) (fun _ => False) rfl rfl ?aP (fun _ hk => hk.elim) ?aF ?aO ?aB ?aS ?aL ?_
      (case aP => exact rfl)
      (case aB => exact bQ)
      (case aF => exact (fun _ _ => trivial))
      (case aO => exact (by (with_reducible repeat (first | apply rA | apply rD | apply r1x)); exact HO_3.out))
      (case aS => exact (bZ bQ))
      (case aL => have := LMc8.out; omega)
      intro v133 w14 ho hb hg hat
      rw [← Ny132.out] at ho
      have n0_ := AM (blk_grown (g := gb130) (o := .cells #[.string ((rd_T31 l0 x9_1).f0), .int .i64 ((rd_T31 l0 x9_1).f1)] 31 (0, 0)) (kW BK130) hg (Kd.R_ne HO_3.out BK130.out (by decide)))
      have n1_ := AM (hb)
      have n2_ := AM (ho)
      clear BK130
      clear HB
      clear HO_3
      have BK130 := n0_
      have HB := n1_
      have HO134 := n2_
      clear n0_ n1_ n2_
      clear ho hb hg hat
      refine hK.out _ _ ⟨(bC BK130.out 0).trans rfl, (bC BK130.out 1).trans rfl⟩ (fun hHeld => ?_)
      clear hK K
      refine norm_ (a' := ?_) ?_ ?_
      rotate_left
      · show Act.put _ (some 22) _ = _
        simp only [Act.put, List.setIfInBounds_toArray, List.set_cons_zero, List.set_cons_succ, i64_w, i32_w]
        rfl
      refine pure_ (i := 10) (N := some 3) (v := ?_) (a' := ?_) #[true, true, true, true, true, true, true, true, true, true, true] rfl rfl (any_of HT_.out (by kernel_rfl)) (fun _ _ _ h => h) (Or.inl ⟨by rfl, ?_⟩) ?_ ?_
      rotate_left
      · intro w'
        go_simp
        with_reducible rfl
      rotate_left
      · simp only [Act.put, List.setIfInBounds_toArray, List.set_cons_zero, List.set_cons_succ, i64_w, i32_w]
        rfl
      refine done_ (done_of HT_.out (by kernel_rfl)) ?_
      try go_wp2
      go_roundg k1
      case measure => have := HK1.out; omega
      case rel => exact ⟨(y132), (wrap64 (x9_1 + 1)), (by first | rfl | (simp; done) | (simp [*]; done)), H', ⟨by have := HK1.out; omega⟩, ⟨by (with_reducible repeat (first | apply rA | apply rD | apply r1x)); exact HO134.out⟩, ⟨by repeat (first | (with_reducible first | exact HB.out | apply bA | apply bD | apply b1 | refine bS ?_ GE130.out) | exact HB.out)⟩⟩
end Go.Proofs.YtjljhianehhlgaaDoor.K
