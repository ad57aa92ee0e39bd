import Derived.Test.YtjljhianehhlgaaDoorQ0
import Derived.Test.YtjljhianehhlgaaDoorWTab
import Derived.Test.YtjljhianehhlgaaDoorBP
namespace Go.Proofs.YtjljhianehhlgaaDoor.K
open Go.RowKit Go.Proofs.YtjljhianehhlgaaDoorW.PrintWords Go.Proofs.YtjljhianehhlgaaDoorW.PrintLast Go.Proofs.YtjljhianehhlgaaDoorW.PrintMore
attribute [local go_sem] max2_int min2_int max_two min_two max_three min_three max_four min_four   -- for this text's walks alone
set_option linter.unusedVariables false
set_option linter.unusedSimpArgs false

/-! ### stipendlaw22_books: function 9 -/
def stipendlaw22_books.f (k : Nat)  : Option (Bool) := (stipendlaw22_fund.f).bind fun bt227 => ((post_Of.f k bt227.1 bt227.2.1 bt227.2.2.1 bt227.2.2.2.1 bt227.2.2.2.2 1 1000 0 0 100 0 (([(⟨50, 60⟩ : S64)] : List (S64))) 850 (([(⟨0, 0, 0, 0, 50, 0⟩ : S70)] : List (S70))) 800).bind fun bt238 => (some (bt238.2 != 0)))
def stipendlaw22_books.T2 : Bool × List (List Nat × List Nat) := (true, [([], []), ([], []), ([0, 1, 0], [0, 1]), ([2], [2]), ([3], [3]), ([3], [3]), ([4, 2, 0, 1, 2, 3, 4], [4]), ([5, 6, 0, 1, 2, 3, 4, 5, 6], [5])])
def stipendlaw22_books.B2 : List Nat := [0, 0, 3, 7, 15, 15, 31, 127]
theorem stipendlaw22_books.tab2 : rtab .any (opsOf Tryd.f9 2) = stipendlaw22_books.T2 := by kernel_rfl
theorem stipendlaw22_books.bits2 : waitsOk stipendlaw22_books.T2.2 stipendlaw22_books.B2 = true := by kernel_rfl
set_option maxHeartbeats 8000000 in
set_option maxRecDepth 100000 in
theorem stipendlaw22_books.calls (w : World) (htb : TB w) :
    Calls Tryd.prog 9 #[] w fun e w' => e = .returned (.bool true) ∧ Below w.heap.size w w' := by
  have h : stipendlaw22_books.f 40 = some false := by kernel_rfl
  obtain ⟨k, hk⟩ : ∃ k, k = 40 := ⟨40, rfl⟩
  rw [← hk] at h
  have hu53 := Tryd.underlying53
  have hu64 := Tryd.underlying64
  have hu70 := Tryd.underlying70
  have hu57 := Tryd.underlying57
  have HB := AM (Below.refl w.heap.size w)
  have H : ((stipendlaw22_fund.f).bind fun bt227 => ((post_Of.f k bt227.1 bt227.2.1 bt227.2.2.1 bt227.2.2.2.1 bt227.2.2.2.2 1 1000 0 0 100 0 (([(⟨50, 60⟩ : S64)] : List (S64))) 850 (([(⟨0, 0, 0, 0, 50, 0⟩ : S70)] : List (S70))) 800).bind fun bt238 => (some (bt238.2 != 0)))) = some false := h
  clear h
  obtain ⟨y220, hy220⟩ : ∃ y_ : List (S64), y_ = (([(⟨50, 60⟩ : S64)] : List (S64))) := ⟨_, rfl⟩
  replace H : ((stipendlaw22_fund.f).bind fun bt227 => ((post_Of.f k bt227.1 bt227.2.1 bt227.2.2.1 bt227.2.2.2.1 bt227.2.2.2.2 1 1000 0 0 100 0 y220 850 (([(⟨0, 0, 0, 0, 50, 0⟩ : S70)] : List (S70))) 800).bind fun bt238 => (some (bt238.2 != 0)))) = some false := by first | (rw [hy220]; with_reducible exact H) | (have H2_ := (Option.bind_some _ _).symm.trans H; rw [hy220]; with_reducible exact H2_) | (have H2_ := (Option.bind_some _ _).symm.trans H; with_reducible exact H2_) | with_reducible exact H | (rw [hy220]; exact H) | exact H
  have Ny220 := AM hy220
  clear hy220
  obtain ⟨y223, hy223⟩ : ∃ y_ : List (S70), y_ = (([(⟨0, 0, 0, 0, 50, 0⟩ : S70)] : List (S70))) := ⟨_, rfl⟩
  replace H : ((stipendlaw22_fund.f).bind fun bt227 => ((post_Of.f k bt227.1 bt227.2.1 bt227.2.2.1 bt227.2.2.2.1 bt227.2.2.2.2 1 1000 0 0 100 0 y220 850 y223 800).bind fun bt238 => (some (bt238.2 != 0)))) = some false := by first | (rw [hy223]; with_reducible exact H) | (have H2_ := (Option.bind_some _ _).symm.trans H; rw [hy223]; with_reducible exact H2_) | (have H2_ := (Option.bind_some _ _).symm.trans H; with_reducible exact H2_) | with_reducible exact H | (rw [hy223]; exact H) | exact H
  have Ny223 := AM hy223
  clear hy223
  replace H := Option.bind_eq_some_iff.mp H
  obtain ⟨⟨t227, t230, t233, t236, t237⟩, A10, H⟩ := H
  replace H : ((post_Of.f k t227 t230 t233 t236 t237 1 1000 0 0 100 0 y220 850 y223 800).bind fun bt238 => (some (bt238.2 != 0))) = some false := H
  have A1 := AM A10
  clear A10
  replace H := Option.bind_eq_some_iff.mp H
  obtain ⟨⟨t238, t241⟩, A20, H⟩ := H
  replace H : (some (t241 != 0)) = some false := H
  have A2 := AM A20
  clear A20
  clear H
  have hT : t238 = M.ES ∧ t241 = 0 := by
    have a1 := A1.out
    have a2 := A2.out
    rw [Ny220.out, Ny223.out, hk] at a2
    unfold stipendlaw22_fund.f at a1
    simp only [Option.some.injEq, Prod.mk.injEq] at a1
    obtain ⟨rfl, rfl, rfl, rfl, rfl⟩ := a1
    have a3 := Option.some.inj (M.of_ES.symm.trans a2)
    rw [Prod.mk.injEq] at a3
    exact ⟨a3.1.symm, a3.2.symm⟩
  have HT3 := AM hT
  clear hT hk
  go_enter Tryd.func9, Tryd.ntmps9
  try go_wp2_with (first | ((with_reducible refine gD (N := 7) rfl ?_); refine Kd.R_lit k64 _ 64 ?hg (N := 7) ?hd (xs := ([(⟨50, 60⟩ : S64)] : List (S64))) (inner := [.int .i64 50, .int .i64 60]) (ok := fun _ => True) (okp := fun _ => True) ?hr ?hp (fun _ hk => hk) trivial (Below.refl _ _) (Nat.le_refl _) (by simp) ?_; (case hd => rfl); (case hg => rfl); (case hr => first | (go_simp; done) | (go_simp; rfl)); (case hp => exact (Reps.c2 (show Kd.M k64 _ _ _ (⟨50, 60⟩ : S64) [.int .i64 50, .int .i64 60] from (k64_mkM _ _ _ (⟨50, 60⟩ : S64) )) (Reps.none _ _))); intro v221 w3 ho4 hb hg_ hnew_; clear hg_ hnew_; (first | rw [← Ny220.out] at ho4 | (simp only [Int.reduceToNat] at ho4; rw [← Ny220.out] at ho4)); have n0_ := AM (Kd.R_lower ho4 (bZ bQ)); have n1_ := AM (bT bQ hb); clear HB; have HO222 := n0_; have HB := n1_; clear n0_ n1_; clear hb ho4) | ((with_reducible refine gD (N := 9) rfl ?_); refine Kd.R_lit k70 _ 70 ?hg (N := 9) ?hd (xs := ([(⟨0, 0, 0, 0, 50, 0⟩ : S70)] : List (S70))) (inner := [.int .i64 0, .int .i64 0, .int .i64 0, .int .i64 0, .int .i64 50, .int .i64 0]) (ok := fun _ => True) (okp := fun _ => True) ?hr ?hp (fun _ hk => hk) trivial (Below.refl _ _) (Nat.le_refl _) (by simp) ?_; (case hd => rfl); (case hg => rfl); (case hr => first | (go_simp; done) | (go_simp; rfl)); (case hp => exact (Reps.c6 (show Kd.M k70 _ _ _ (⟨0, 0, 0, 0, 50, 0⟩ : S70) [.int .i64 0, .int .i64 0, .int .i64 0, .int .i64 0, .int .i64 50, .int .i64 0] from (k70_mkM _ _ _ (⟨0, 0, 0, 0, 50, 0⟩ : S70) )) (Reps.none _ _))); intro v224 w5 ho6 hb hg_ hnew_; clear hg_ hnew_; (first | rw [← Ny223.out] at ho6 | (simp only [Int.reduceToNat] at ho6; rw [← Ny223.out] at ho6)); have n0_ := AM (Kd.R_below (by (with_reducible repeat (first | apply rA | apply rD | apply r1x)); exact HO222.out) hb); have n1_ := AM (Kd.R_lower ho6 (bZ bQ)); have n2_ := AM (bT bQ hb); clear HO222; clear HB; have HO222 := n0_; have HO225 := n1_; have HB := n2_; clear n0_ n1_ n2_; clear hb ho6; obtain ⟨Ao7, co7, eo7⟩ := Kd.R_slice HO225.out; subst eo7; obtain ⟨Ao8, co8, eo8⟩ := Kd.R_slice HO222.out; subst eo8) | ((with_reducible refine gD (N := 1) rfl ?_); refine bE ?hg (N := 1) ?hd (cs := #[.int .i64 0, .int .i64 0, .int .i64 0, .int .i64 0, .int .i64 0, .int .i64 0, .slice none 0 0, .int .i64 0, .slice none 0 0, .int .i64 0]) (t := 57) ?hr ?_; (case hd => rfl); (case hg => rfl); (case hr => first | (go_simp; done) | (go_simp; rfl)); intro gb226 hg w9 hbox hb; have n0_ := AM (Kd.R_below (by (with_reducible repeat (first | apply rA | apply rD | apply r1x)); exact HO222.out) hb); have n1_ := AM (Kd.R_below (by (with_reducible repeat (first | apply rA | apply rD | apply r1x)); exact HO225.out) hb); have n2_ := AM (bT bQ hb); have n3_ := AM (hbox); have n4_ := AM ((by rw [hg]; exact (bZ bQ) : w.heap.size ≤ gb226)); have n5_ := AM ((by rw [hg]; exact (bZ bQ) : w.heap.size ≤ gb226)); clear HO222; clear HO225; clear HB; have HO222 := n0_; have HO225 := n1_; have HB := n2_; have BK226 := n3_; have GW226 := n4_; have GE226 := n5_; clear n0_ n1_ n2_ n3_ n4_ n5_; clear hb hbox hg; have hcz10_0 : w9.cell? ⟨gb226, 0, none⟩ = some (.int .i64 0) := (bC BK226.out 0).trans rfl; have hcz10_1 : w9.cell? ⟨gb226, 1, none⟩ = some (.int .i64 0) := (bC BK226.out 1).trans rfl; have hcz10_2 : w9.cell? ⟨gb226, 2, none⟩ = some (.int .i64 0) := (bC BK226.out 2).trans rfl; have hcz10_3 : w9.cell? ⟨gb226, 3, none⟩ = some (.int .i64 0) := (bC BK226.out 3).trans rfl; have hcz10_4 : w9.cell? ⟨gb226, 4, none⟩ = some (.int .i64 0) := (bC BK226.out 4).trans rfl; have hcz10_5 : w9.cell? ⟨gb226, 5, none⟩ = some (.int .i64 0) := (bC BK226.out 5).trans rfl; have hcz10_6 : w9.cell? ⟨gb226, 6, none⟩ = some (.slice none 0 0) := (bC BK226.out 6).trans rfl; have hcz10_7 : w9.cell? ⟨gb226, 7, none⟩ = some (.int .i64 0) := (bC BK226.out 7).trans rfl; have hcz10_8 : w9.cell? ⟨gb226, 8, none⟩ = some (.slice none 0 0) := (bC BK226.out 8).trans rfl; have hcz10_9 : w9.cell? ⟨gb226, 9, none⟩ = some (.int .i64 0) := (bC BK226.out 9).trans rfl; have hfz10_0 := bF BK226.out 0; have hfz10_1 := bF BK226.out 1; have hfz10_2 := bF BK226.out 2; have hfz10_3 := bF BK226.out 3; have hfz10_4 := bF BK226.out 4; have hfz10_5 := bF BK226.out 5; have hfz10_6 := bF BK226.out 6; have hfz10_7 := bF BK226.out 7; have hfz10_8 := bF BK226.out 8; have hfz10_9 := bF BK226.out 9))
  have n0_ : Aside0 (Kd.R k64 64 ((((((((((w9.setCell ⟨gb226, 0, none⟩ (.int .i64 1)).setCell ⟨gb226, 1, none⟩ (.int .i64 1000)).setCell ⟨gb226, 2, none⟩ (.int .i64 0)).setCell ⟨gb226, 3, none⟩ (.int .i64 0)).setCell ⟨gb226, 4, none⟩ (.int .i64 100)).setCell ⟨gb226, 5, none⟩ (.int .i64 0)).setCell ⟨gb226, 6, none⟩ (.slice Ao8 y220.length co8)).setCell ⟨gb226, 7, none⟩ (.int .i64 850)).setCell ⟨gb226, 8, none⟩ (.slice Ao7 y223.length co7)).setCell ⟨gb226, 9, none⟩ (.int .i64 800)) w.heap.size (fun _ => True) (.slice Ao8 y220.length co8) y220) := ⟨by (with_reducible repeat (first | apply rA | apply rD | apply r1x)); exact Kd.R_mono (Kd.R_far (p := ⟨gb226, 9, none⟩) (Kd.R_far (p := ⟨gb226, 8, none⟩) (Kd.R_far (p := ⟨gb226, 7, none⟩) (Kd.R_far (p := ⟨gb226, 6, none⟩) (Kd.R_far (p := ⟨gb226, 5, none⟩) (Kd.R_far (p := ⟨gb226, 4, none⟩) (Kd.R_far (p := ⟨gb226, 3, none⟩) (Kd.R_far (p := ⟨gb226, 2, none⟩) (Kd.R_far (p := ⟨gb226, 1, none⟩) (Kd.R_far (p := ⟨gb226, 0, none⟩) (Kd.R_types HO222.out BK226.out (by decide)) (fun _ hk => hk.2) (.int .i64 1)) (fun _ hk => hk.2) (.int .i64 1000)) (fun _ hk => hk.2) (.int .i64 0)) (fun _ hk => hk.2) (.int .i64 0)) (fun _ hk => hk.2) (.int .i64 100)) (fun _ hk => hk.2) (.int .i64 0)) (fun _ hk => hk.2) (.slice Ao8 y220.length co8)) (fun _ hk => hk.2) (.int .i64 850)) (fun _ hk => hk.2) (.slice Ao7 y223.length co7)) (fun _ hk => hk.2) (.int .i64 800)) (fun _ hk => trivial)⟩
  have n1_ : Aside0 (Kd.R k70 70 ((((((((((w9.setCell ⟨gb226, 0, none⟩ (.int .i64 1)).setCell ⟨gb226, 1, none⟩ (.int .i64 1000)).setCell ⟨gb226, 2, none⟩ (.int .i64 0)).setCell ⟨gb226, 3, none⟩ (.int .i64 0)).setCell ⟨gb226, 4, none⟩ (.int .i64 100)).setCell ⟨gb226, 5, none⟩ (.int .i64 0)).setCell ⟨gb226, 6, none⟩ (.slice Ao8 y220.length co8)).setCell ⟨gb226, 7, none⟩ (.int .i64 850)).setCell ⟨gb226, 8, none⟩ (.slice Ao7 y223.length co7)).setCell ⟨gb226, 9, none⟩ (.int .i64 800)) w.heap.size (fun _ => True) (.slice Ao7 y223.length co7) y223) := ⟨by (with_reducible repeat (first | apply rA | apply rD | apply r1x)); exact Kd.R_mono (Kd.R_far (p := ⟨gb226, 9, none⟩) (Kd.R_far (p := ⟨gb226, 8, none⟩) (Kd.R_far (p := ⟨gb226, 7, none⟩) (Kd.R_far (p := ⟨gb226, 6, none⟩) (Kd.R_far (p := ⟨gb226, 5, none⟩) (Kd.R_far (p := ⟨gb226, 4, none⟩) (Kd.R_far (p := ⟨gb226, 3, none⟩) (Kd.R_far (p := ⟨gb226, 2, none⟩) (Kd.R_far (p := ⟨gb226, 1, none⟩) (Kd.R_far (p := ⟨gb226, 0, none⟩) (Kd.R_types HO225.out BK226.out (by decide)) (fun _ hk => hk.2) (.int .i64 1)) (fun _ hk => hk.2) (.int .i64 1000)) (fun _ hk => hk.2) (.int .i64 0)) (fun _ hk => hk.2) (.int .i64 0)) (fun _ hk => hk.2) (.int .i64 100)) (fun _ hk => hk.2) (.int .i64 0)) (fun _ hk => hk.2) (.slice Ao8 y220.length co8)) (fun _ hk => hk.2) (.int .i64 850)) (fun _ hk => hk.2) (.slice Ao7 y223.length co7)) (fun _ hk => hk.2) (.int .i64 800)) (fun _ hk => trivial)⟩
  have n2_ : Aside0 (((((((((((w9.setCell ⟨gb226, 0, none⟩ (.int .i64 1)).setCell ⟨gb226, 1, none⟩ (.int .i64 1000)).setCell ⟨gb226, 2, none⟩ (.int .i64 0)).setCell ⟨gb226, 3, none⟩ (.int .i64 0)).setCell ⟨gb226, 4, none⟩ (.int .i64 100)).setCell ⟨gb226, 5, none⟩ (.int .i64 0)).setCell ⟨gb226, 6, none⟩ (.slice Ao8 y220.length co8)).setCell ⟨gb226, 7, none⟩ (.int .i64 850)).setCell ⟨gb226, 8, none⟩ (.slice Ao7 y223.length co7)).setCell ⟨gb226, 9, none⟩ (.int .i64 800)).heap[gb226]? = some (.cells #[.int .i64 1, .int .i64 1000, .int .i64 0, .int .i64 0, .int .i64 100, .int .i64 0, .slice Ao8 y220.length co8, .int .i64 850, .slice Ao7 y223.length co7, .int .i64 800] 57 (0, 0))) := ⟨by (with_reducible repeat (first | refine kD ?_ _ | refine k1_ ?_ | refine kA ?_ _)); refine kP (cs := #[.int .i64 1, .int .i64 1000, .int .i64 0, .int .i64 0, .int .i64 100, .int .i64 0, .slice Ao8 y220.length co8, .int .i64 850, .slice Ao7 y223.length co7, .int .i64 0]) ?_ 9 _ rfl; (with_reducible repeat (first | refine kD ?_ _ | refine k1_ ?_ | refine kA ?_ _)); refine kP (cs := #[.int .i64 1, .int .i64 1000, .int .i64 0, .int .i64 0, .int .i64 100, .int .i64 0, .slice Ao8 y220.length co8, .int .i64 850, .slice none 0 0, .int .i64 0]) ?_ 8 _ rfl; (with_reducible repeat (first | refine kD ?_ _ | refine k1_ ?_ | refine kA ?_ _)); refine kP (cs := #[.int .i64 1, .int .i64 1000, .int .i64 0, .int .i64 0, .int .i64 100, .int .i64 0, .slice Ao8 y220.length co8, .int .i64 0, .slice none 0 0, .int .i64 0]) ?_ 7 _ rfl; (with_reducible repeat (first | refine kD ?_ _ | refine k1_ ?_ | refine kA ?_ _)); refine kP (cs := #[.int .i64 1, .int .i64 1000, .int .i64 0, .int .i64 0, .int .i64 100, .int .i64 0, .slice none 0 0, .int .i64 0, .slice none 0 0, .int .i64 0]) ?_ 6 _ rfl; (with_reducible repeat (first | refine kD ?_ _ | refine k1_ ?_ | refine kA ?_ _)); refine kP (cs := #[.int .i64 1, .int .i64 1000, .int .i64 0, .int .i64 0, .int .i64 100, .int .i64 0, .slice none 0 0, .int .i64 0, .slice none 0 0, .int .i64 0]) ?_ 5 _ rfl; (with_reducible repeat (first | refine kD ?_ _ | refine k1_ ?_ | refine kA ?_ _)); refine kP (cs := #[.int .i64 1, .int .i64 1000, .int .i64 0, .int .i64 0, .int .i64 0, .int .i64 0, .slice none 0 0, .int .i64 0, .slice none 0 0, .int .i64 0]) ?_ 4 _ rfl; (with_reducible repeat (first | refine kD ?_ _ | refine k1_ ?_ | refine kA ?_ _)); refine kP (cs := #[.int .i64 1, .int .i64 1000, .int .i64 0, .int .i64 0, .int .i64 0, .int .i64 0, .slice none 0 0, .int .i64 0, .slice none 0 0, .int .i64 0]) ?_ 3 _ rfl; (with_reducible repeat (first | refine kD ?_ _ | refine k1_ ?_ | refine kA ?_ _)); refine kP (cs := #[.int .i64 1, .int .i64 1000, .int .i64 0, .int .i64 0, .int .i64 0, .int .i64 0, .slice none 0 0, .int .i64 0, .slice none 0 0, .int .i64 0]) ?_ 2 _ rfl; (with_reducible repeat (first | refine kD ?_ _ | refine k1_ ?_ | refine kA ?_ _)); refine kP (cs := #[.int .i64 1, .int .i64 0, .int .i64 0, .int .i64 0, .int .i64 0, .int .i64 0, .slice none 0 0, .int .i64 0, .slice none 0 0, .int .i64 0]) ?_ 1 _ rfl; (with_reducible repeat (first | refine kD ?_ _ | refine k1_ ?_ | refine kA ?_ _)); refine kP (cs := #[.int .i64 0, .int .i64 0, .int .i64 0, .int .i64 0, .int .i64 0, .int .i64 0, .slice none 0 0, .int .i64 0, .slice none 0 0, .int .i64 0]) ?_ 0 _ rfl; (with_reducible repeat (first | refine kD ?_ _ | refine k1_ ?_ | refine kA ?_ _)); exact BK226.out⟩
  have n3_ : Aside0 (Below w.heap.size w ((((((((((w9.setCell ⟨gb226, 0, none⟩ (.int .i64 1)).setCell ⟨gb226, 1, none⟩ (.int .i64 1000)).setCell ⟨gb226, 2, none⟩ (.int .i64 0)).setCell ⟨gb226, 3, none⟩ (.int .i64 0)).setCell ⟨gb226, 4, none⟩ (.int .i64 100)).setCell ⟨gb226, 5, none⟩ (.int .i64 0)).setCell ⟨gb226, 6, none⟩ (.slice Ao8 y220.length co8)).setCell ⟨gb226, 7, none⟩ (.int .i64 850)).setCell ⟨gb226, 8, none⟩ (.slice Ao7 y223.length co7)).setCell ⟨gb226, 9, none⟩ (.int .i64 800))) := ⟨by repeat (first | (with_reducible first | exact HB.out | apply bA | apply bD | apply b1 | refine bS ?_ GE226.out) | exact HB.out)⟩
  (try clear HO222)
  (try clear HO225)
  (try clear BK226)
  (try clear HB)
  generalize ((((((((((w9.setCell ⟨gb226, 0, none⟩ (.int .i64 1)).setCell ⟨gb226, 1, none⟩ (.int .i64 1000)).setCell ⟨gb226, 2, none⟩ (.int .i64 0)).setCell ⟨gb226, 3, none⟩ (.int .i64 0)).setCell ⟨gb226, 4, none⟩ (.int .i64 100)).setCell ⟨gb226, 5, none⟩ (.int .i64 0)).setCell ⟨gb226, 6, none⟩ (.slice Ao8 y220.length co8)).setCell ⟨gb226, 7, none⟩ (.int .i64 850)).setCell ⟨gb226, 8, none⟩ (.slice Ao7 y223.length co7)).setCell ⟨gb226, 9, none⟩ (.int .i64 800)) = w11 at n0_ n1_ n2_ n3_ ⊢
  have HO222 := n0_
  have HO225 := n1_
  have BK226 := n2_
  have HB := n3_
  clear n0_ n1_ n2_ n3_
  have n0_ := AM (r1x HO222.out)
  have n1_ := AM (r1x HO225.out)
  have n2_ := AM (k1_ BK226.out)
  have n3_ := AM (b1 HB.out)
  clear HO222
  clear HO225
  clear BK226
  clear HB
  have HO222 := n0_
  have HO225 := n1_
  have BK226 := n2_
  have HB := n3_
  clear n0_ n1_ n2_ n3_
  refine start_ (n := 8) (S := fun w' => w'.cell? ⟨gb226, 0, none⟩ = some (.int .i64 1) ∧ w'.cell? ⟨gb226, 1, none⟩ = some (.int .i64 1000) ∧ w'.cell? ⟨gb226, 2, none⟩ = some (.int .i64 0) ∧ w'.cell? ⟨gb226, 3, none⟩ = some (.int .i64 0) ∧ w'.cell? ⟨gb226, 4, none⟩ = some (.int .i64 100) ∧ w'.cell? ⟨gb226, 5, none⟩ = some (.int .i64 0) ∧ w'.cell? ⟨gb226, 6, none⟩ = some (.slice Ao8 y220.length co8) ∧ w'.cell? ⟨gb226, 7, none⟩ = some (.int .i64 850) ∧ w'.cell? ⟨gb226, 8, none⟩ = some (.slice Ao7 y223.length co7) ∧ w'.cell? ⟨gb226, 9, none⟩ = some (.int .i64 800)) (ds := []) #[false, false, false, false, false, false, false, false] (by kernel_rfl) rfl rfl ⟨(bC BK226.out 0).trans rfl, (bC BK226.out 1).trans rfl, (bC BK226.out 2).trans rfl, (bC BK226.out 3).trans rfl, (bC BK226.out 4).trans rfl, (bC BK226.out 5).trans rfl, (bC BK226.out 6).trans rfl, (bC BK226.out 7).trans rfl, (bC BK226.out 8).trans rfl, (bC BK226.out 9).trans rfl⟩ (fun hHeld => ?_); refine with_tabW stipendlaw22_books.tab2 stipendlaw22_books.bits2 (fun HT_ HW_ => ?_)
  generalize w11.drew = w12 at HO222 HO225 BK226 HB hHeld ⊢
  refine take_ (i := 1) (N := some 13) (v := ?_) (a' := ?_) #[false, true, false, false, false, false, false, false] rfl rfl (take_ofW HT_.out HW_.out (by kernel_rfl)) (fun _ _ _ h => h) (Or.inl ⟨by rfl, ?_⟩) hHeld ?_ ?_
  rotate_left
  · rintro w' ⟨s0, s1, s2, s3, s4, s5, s6, s7, s8, s9⟩
    go_simp
    with_reducible rfl
  rotate_left
  · simp only [Act.put, List.setIfInBounds_toArray, List.set_cons_zero, List.set_cons_succ, i64_w, i32_w]
    rfl
  refine one_ (i := 0) (N := some 12) #[true, true, false, false, false, false, false, false] rfl rfl (one_of HT_.out (by kernel_rfl)) (by decide) (fun K hK => ?_)
  refine goes_ Tryd.func32 (by kernel_rfl) rfl #[] (by rfl) rfl rfl (by (try simp only [List.map_toArray, List.map_cons, List.map_nil]); first | done | rfl | (simp only [List.length_drop, List.length_take]; rfl)) ?_
  with_reducible refine (stipendlaw22_fund.calls  t227 t230 t233 t236 t237 _ A1.out).mono ?_
  rintro e w13 ⟨v228, v231, v234, rfl, ho0, ho1, ho2, hb⟩
  refine ⟨_, rfl, ?_⟩
  have n0_ := AM (Kd.R_below (by (with_reducible repeat (first | apply rA | apply rD | apply r1x)); exact HO222.out) hb)
  have n1_ := AM (Kd.R_below (by (with_reducible repeat (first | apply rA | apply rD | apply r1x)); exact HO225.out) hb)
  have n2_ := AM (Kd.S_lower ho0 (bZ bQ))
  have n3_ := AM (Kd.S_lower ho1 (bZ bQ))
  have n4_ := AM (Kd.R_lower ho2 (bZ bQ))
  have n5_ := AM (kB (g := gb226) (o := .cells #[.int .i64 1, .int .i64 1000, .int .i64 0, .int .i64 0, .int .i64 100, .int .i64 0, .slice Ao8 y220.length co8, .int .i64 850, .slice Ao7 y223.length co7, .int .i64 800] 57 (0, 0)) (kW BK226) hb)
  have n6_ := AM (bT bQ hb)
  clear HO222
  clear HO225
  clear BK226
  clear HB
  have HO222 := n0_
  have HO225 := n1_
  have HO229 := n2_
  have HO232 := n3_
  have HO235 := n4_
  have BK226 := n5_
  have HB := n6_
  clear n0_ n1_ n2_ n3_ n4_ n5_ n6_
  (try clear hb)
  (try clear hb2)
  (try clear hk)
  (try clear hi)
  (try clear ho0)
  (try clear ho1)
  (try clear ho2)
  obtain ⟨Ao14, co14, eo14⟩ := Kd.S_slice HO229.out
  (first | subst eo14 | (injection eo14 with f1_ f2_ f3_; have f4_ := f1_.symm; have f5_ := f3_.symm; clear f1_ f2_ f3_; subst f4_; subst f5_))
  obtain ⟨Ao15, co15, eo15⟩ := Kd.S_slice HO232.out
  (first | subst eo15 | (injection eo15 with f1_ f2_ f3_; have f4_ := f1_.symm; have f5_ := f3_.symm; clear f1_ f2_ f3_; subst f4_; subst f5_))
  obtain ⟨Ao16, co16, eo16⟩ := Kd.R_slice HO235.out
  (first | subst eo16 | (injection eo16 with f1_ f2_ f3_; have f4_ := f1_.symm; have f5_ := f3_.symm; clear f1_ f2_ f3_; subst f4_; subst f5_))
  refine hK.out _ _ ⟨(bC BK226.out 0).trans rfl, (bC BK226.out 1).trans rfl, (bC BK226.out 2).trans rfl, (bC BK226.out 3).trans rfl, (bC BK226.out 4).trans rfl, (bC BK226.out 5).trans rfl, (bC BK226.out 6).trans rfl, (bC BK226.out 7).trans rfl, (bC BK226.out 8).trans rfl, (bC BK226.out 9).trans rfl⟩ (fun hHeld => ?_)
  clear hK K
  refine norm_ (a' := ?_) ?_ ?_
  rotate_left
  · show Act.put _ (some 12) _ = _
    simp only [Act.put, List.setIfInBounds_toArray, List.set_cons_zero, List.set_cons_succ, i64_w, i32_w]
    rfl
  refine one_ (i := 2) (N := some 14) #[true, true, true, false, false, false, false, false] rfl rfl (one_of HT_.out (by kernel_rfl)) (by decide) (fun K hK => ?_)
  refine goes_ Tryd.func24 (by kernel_rfl) rfl #[.agg #[.slice Ao14 t227.length co14, .slice Ao15 t230.length co15, .slice Ao16 t233.length co16, .int .i64 t236, .int .i64 t237], .agg #[.int .i64 1, .int .i64 1000, .int .i64 0, .int .i64 0, .int .i64 100, .int .i64 0, .slice Ao8 y220.length co8, .int .i64 850, .slice Ao7 y223.length co7, .int .i64 800]] (by rfl) rfl rfl (by (try simp only [List.map_toArray, List.map_cons, List.map_nil]); first | done | rfl | (simp only [List.length_drop, List.length_take]; rfl)) ?_
  with_reducible refine (post_Of.calls k _ _ t227 _ _ t230 _ _ t233 t236 t237 1 1000 0 0 100 0 _ _ y220 850 _ _ y223 800 t238 t241 _ ?side1 ?side2 ?side3 ?side4 ?side5 ?side6 ?side7 ?side8 ?side9 ?side10 A2.out).mono ?_
  (case side1 => repeat (first | exact (Kd.S_reads' HO229.out).2.2 | (with_reducible refine cA ?_ _) | (with_reducible refine cD ?_ _) | (with_reducible refine c1_ ?_)))
  (case side2 => exact (Kd.S_reads' HO229.out).2.1)
  (case side3 => repeat (first | exact (Kd.S_reads' HO232.out).2.2 | (with_reducible refine cA ?_ _) | (with_reducible refine cD ?_ _) | (with_reducible refine c1_ ?_)))
  (case side4 => exact (Kd.S_reads' HO232.out).2.1)
  (case side5 => repeat (first | exact (Kd.R_reads' HO235.out).2.2 | (with_reducible refine cA ?_ _) | (with_reducible refine cD ?_ _) | (with_reducible refine c1_ ?_)))
  (case side6 => exact (Kd.R_reads' HO235.out).2.1)
  (case side7 => repeat (first | exact (Kd.R_reads' HO222.out).2.2 | (with_reducible refine cA ?_ _) | (with_reducible refine cD ?_ _) | (with_reducible refine c1_ ?_)))
  (case side8 => exact (Kd.R_reads' HO222.out).2.1)
  (case side9 => repeat (first | exact (Kd.R_reads' HO225.out).2.2 | (with_reducible refine cA ?_ _) | (with_reducible refine cD ?_ _) | (with_reducible refine c1_ ?_)))
  (case side10 => exact (Kd.R_reads' HO225.out).2.1)
  rintro e w17 ⟨v239, rfl, ho0, hb⟩
  refine ⟨_, rfl, ?_⟩
  have n0_ := AM (Kd.R_below (by (with_reducible repeat (first | apply rA | apply rD | apply r1x)); exact HO222.out) hb)
  have n1_ := AM (Kd.R_below (by (with_reducible repeat (first | apply rA | apply rD | apply r1x)); exact HO225.out) hb)
  have n2_ := AM (Kd.S_below (by (with_reducible repeat (first | apply Kd.S_alloc | apply Kd.S_drewN | apply Kd.S_drew)); exact HO229.out) hb)
  have n3_ := AM (Kd.S_below (by (with_reducible repeat (first | apply Kd.S_alloc | apply Kd.S_drewN | apply Kd.S_drew)); exact HO232.out) hb)
  have n4_ := AM (Kd.R_below (by (with_reducible repeat (first | apply rA | apply rD | apply r1x)); exact HO235.out) hb)
  have n5_ := AM (Kd.R_lower ho0 (bZ bQ))
  have n6_ := AM (kB (g := gb226) (o := .cells #[.int .i64 1, .int .i64 1000, .int .i64 0, .int .i64 0, .int .i64 100, .int .i64 0, .slice Ao8 y220.length co8, .int .i64 850, .slice Ao7 y223.length co7, .int .i64 800] 57 (0, 0)) (kW BK226) hb)
  have n7_ := AM (bT bQ hb)
  clear HO222
  clear HO225
  clear HO229
  clear HO232
  clear HO235
  clear BK226
  clear HB
  have HO222 := n0_
  have HO225 := n1_
  have HO229 := n2_
  have HO232 := n3_
  have HO235 := n4_
  have HO240 := n5_
  have BK226 := n6_
  have HB := n7_
  clear n0_ n1_ n2_ n3_ n4_ n5_ n6_ n7_
  (try clear hb)
  (try clear hb2)
  (try clear hk)
  (try clear hi)
  (try clear ho0)
  refine hK.out _ _ ⟨(bC BK226.out 0).trans rfl, (bC BK226.out 1).trans rfl, (bC BK226.out 2).trans rfl, (bC BK226.out 3).trans rfl, (bC BK226.out 4).trans rfl, (bC BK226.out 5).trans rfl, (bC BK226.out 6).trans rfl, (bC BK226.out 7).trans rfl, (bC BK226.out 8).trans rfl, (bC BK226.out 9).trans rfl⟩ (fun hHeld => ?_)
  clear hK K
  refine norm_ (a' := ?_) ?_ ?_
  rotate_left
  · show Act.put _ (some 14) _ = _
    simp only [Act.put, List.setIfInBounds_toArray, List.set_cons_zero, List.set_cons_succ, i64_w, i32_w]
    rfl
  refine pure_ (i := 3) (N := some 11) (v := ?_) (a' := ?_) #[true, true, true, true, false, false, false, false] rfl rfl (any_of HT_.out (by kernel_rfl)) (fun _ _ _ h => h) (Or.inl ⟨by rfl, ?_⟩) ?_ ?_
  rotate_left
  · intro w'
    go_simp
    with_reducible rfl
  rotate_left
  · simp only [Act.put, List.setIfInBounds_toArray, List.set_cons_zero, List.set_cons_succ, i64_w, i32_w]
    rfl
  refine pure_ (i := 4) (N := some 15) (v := ?_) (a' := ?_) #[true, true, true, true, true, false, false, false] rfl rfl (any_of HT_.out (by kernel_rfl)) (fun _ _ _ h => h) (Or.inl ⟨by rfl, ?_⟩) ?_ ?_
  rotate_left
  · intro w'
    go_simp
    with_reducible rfl
  rotate_left
  · simp only [Act.put, List.setIfInBounds_toArray, List.set_cons_zero, List.set_cons_succ, i64_w, i32_w]
    rfl
  refine pure_ (i := 5) (N := some 16) (v := ?_) (a' := ?_) #[true, true, true, true, true, true, false, false] rfl rfl (any_of HT_.out (by kernel_rfl)) (fun _ _ _ h => h) (Or.inl ⟨by rfl, ?_⟩) ?_ ?_
  rotate_left
  · intro w'
    go_simp
    with_reducible rfl
  rotate_left
  · simp only [Act.put, List.setIfInBounds_toArray, List.set_cons_zero, List.set_cons_succ, i64_w, i32_w]
    rfl
  refine pure_ (i := 6) (N := some 2) (v := ?_) (a' := ?_) #[true, true, true, true, true, true, true, false] rfl rfl (any_of HT_.out (by kernel_rfl)) (fun _ _ _ h => h) (Or.inl ⟨by rfl, ?_⟩) ?_ ?_
  rotate_left
  · intro w'
    go_simp
    with_reducible rfl
  rotate_left
  · simp only [Act.put, List.setIfInBounds_toArray, List.set_cons_zero, List.set_cons_succ, i64_w, i32_w]
    rfl
  refine pure_ (i := 7) (N := some 3) (v := ?_) (a' := ?_) #[true, true, true, true, true, true, true, true] rfl rfl (any_of HT_.out (by kernel_rfl)) (fun _ _ _ h => h) (Or.inl ⟨by rfl, ?_⟩) ?_ ?_
  rotate_left
  · intro w'
    go_simp
    with_reducible rfl
  rotate_left
  · simp only [Act.put, List.setIfInBounds_toArray, List.set_cons_zero, List.set_cons_succ, i64_w, i32_w]
    rfl
  refine done_ (done_of HT_.out (by kernel_rfl)) ?_
  obtain ⟨rfl, rfl⟩ := HT3.out
  obtain ⟨ge, cape, hv, hbe, hle, _⟩ := Kd.R_form HO240.out (by decide)
  have hv6 : v239 = .slice (some ⟨ge, 0, none⟩) 6 cape := hv
  subst hv6
  clear hv
  have HC := AM (Kd.R_reads' HO240.out).2.2
  have HCP := AM (Kd.R_reads' HO240.out).2.1
  obtain ⟨ad, had, hx0, hx1⟩ := at_T31 HC.out 3 (by decide) (by decide)
  cases had
  have hy0 : w17.cell? ⟨ge, 6, none⟩ = some (.string ⟨#[102, 117, 110, 100, 45, 99, 97, 114, 101]⟩) := hx0
  have hy1 : w17.cell? ⟨ge, 7, none⟩ = some (.int .i64 (-110)) := hx1
  have HTB := AM (tabOf htb HB.out)
  have htb0 := AM htb
  clear hx0 hx1 htb HO222 HO225 HO229 HO232 HO235 BK226
  have hJ := M.JS_list
  have hb6 : ((M.BS.length : Int) == 6) = true := by decide
  go_wp2_with (first
    | (go_at_call 10; (with_reducible refine (M.new_t _).mono ?_); rintro e w20 ⟨g, mb, rfl, hbk, hg1, hg2, hb⟩; have HBK := AM hbk; have HG1 := AM (Nat.le_trans HB.out.size hg1); have HG2 := AM (Nat.le_trans HB.out.size hg2); have HB20 := AM (bT HB.out hb); have HC20 := AM (cB HC.out hb); have HTB20 := AM (tabOf HTB.out hb); have hz0 := (hb.cell (bL _ _ hy0)).trans hy0; have hz1 := (hb.cell (bL _ _ hy1)).trans hy1; clear hbk hg1 hg2 hb hy0 hy1)
    | (go_at_call 12; (with_reducible refine (M.post_ES_t HBK.out HC20.out HCP.out).mono ?_); rintro e w21 ⟨rfl, D', n', hn', hbk, hh, ht⟩; have HBK21 := AM hbk; have HH := AM hh; have HN21 := AM hn'; have HB21 := AM (M.Touch.below_after HB20.out ht (fun k q => by rcases q with rfl | rfl; exact HG1.out; exact HG2.out)); have HTB21 : Aside0 (TB w21) := AM (tabOf htb0.out HB21.out); clear hbk hh ht hn' HC20 HBK)
    | (go_at_call 12; (with_reducible refine (M.post_X_t _ _).mono ?_); rintro e w22 ⟨rfl, hb⟩; have HBK22 := AM (HBK21.out.below hb HBK21.out.lt HBK21.out.map.lt); have HB22 := AM (bT HB21.out hb); have HTB22 := AM (tabOf HTB21.out hb); clear hb)
    | (go_at_call 14; (with_reducible refine (M.bank_t HBK22.out HH.out).mono ?_); rintro e w23 ⟨rfl, hw⟩; subst hw)
    | (go_at_call 15; (with_reducible refine (M.entries_t HBK22.out).mono ?_); rintro e w24 ⟨rfl, hw⟩; subst hw)
    | (go_at_call 19; (with_reducible refine (post_Book_Lines.calls 40 M.BS M.LS _ HBK22.out (M.nums_of HH.out) (by have := HN21.out; omega) (M.bal_BS HH.out) M.lines_BS HTB22.out).mono ?_); rintro e w25 ⟨v0, rfl, hr, hb⟩; obtain ⟨gl, capl, hvl, hbl, hll, _⟩ := Kd.R_form hr (by rw [M.LS_len]; decide); subst hvl; have HL := AM hr; have HLL := AM hll; have HBK25 := AM (HBK22.out.below hb HBK22.out.lt HBK22.out.map.lt); have HB25 := AM (bT HB22.out hb); clear hr hll hbl hb)
    | (go_at_call 33; (with_reducible refine (M.join_t HL.out HLL.out).mono ?_); rintro e w26 ⟨rfl, hb⟩; have HBK26 := AM (HBK25.out.below hb HBK25.out.lt HBK25.out.map.lt); have HB26 := AM (bT HB25.out hb); clear hb)
    | (go_at_call 13; (with_reducible refine (M.bal_u HBK26.out (M.nums_of HH.out) (by have := HN21.out; omega) (M.bal_BS HH.out)).mono ?_); rintro e w27 ⟨Ab, cb, rfl, hcb, hCb, hb⟩; have HB27 := AM (bT HB26.out hb); clear hcb hCb hb))
  go_ret
  exact ⟨rfl, HB27.out⟩

end Go.Proofs.YtjljhianehhlgaaDoor.K
