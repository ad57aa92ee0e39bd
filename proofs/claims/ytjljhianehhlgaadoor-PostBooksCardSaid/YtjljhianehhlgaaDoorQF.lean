import Derived.Test.YtjljhianehhlgaaDoorQ0
namespace Go.Proofs.YtjljhianehhlgaaDoor.K
open Go.RowKit Go.Proofs.YtjljhianehhlgaaDoorW.PrintWords Go.Proofs.YtjljhianehhlgaaDoorW.PrintLast Go.Proofs.YtjljhianehhlgaaDoorW.PrintMore
attribute [local go_sem] max2_int min2_int max_two min_two max_three min_three max_four min_four   -- for this text's walks alone
set_option linter.unusedVariables false
set_option linter.unusedSimpArgs false

/-! ### stipendlaw22_fund: function 32 -/
def stipendlaw22_fund.f  : Option ((List (List (S41))) × (List (S43)) × (List (S58)) × Int × Int) := some (([] : List (List (S41))), (([(⟨(⟨#[99, 97, 114, 101]⟩ : ByteArray), 0, ([] : List (S41)), 0, 0, 0⟩ : S43)] : List (S43))), ([] : List (S58)), 0, 0)
set_option maxHeartbeats 8000000 in
set_option maxRecDepth 100000 in
theorem stipendlaw22_fund.calls  (r1 : List (List (S41))) (r2 : List (S43)) (r3 : List (S58)) (r4 : Int) (r5 : Int) (w : World) (h : stipendlaw22_fund.f  = some (r1, r2, r3, r4, r5)) :
    Calls Tryd.prog 32 #[] w fun e w' => ∃ v0_ v1_ v2_ : Value, e = .returned (.agg #[v0_, v1_, v2_, .int .i64 r4, .int .i64 r5]) ∧ Kd.S (Kd.slice 140 k41) 66 w' w.heap.size (fun _ => True) v0_ r1 ∧ Kd.S k43 68 w' w.heap.size (fun _ => True) v1_ r2 ∧ Kd.R k58 144 w' w.heap.size (fun _ => True) v2_ r3 ∧ Below w.heap.size w w' := by
  have hu51 := Tryd.underlying51
  have hu68 := Tryd.underlying68
  have HB := AM (Below.refl w.heap.size w)
  have H : (some (([] : List (List (S41))), (([(⟨(⟨#[99, 97, 114, 101]⟩ : ByteArray), 0, ([] : List (S41)), 0, 0, 0⟩ : S43)] : List (S43))), ([] : List (S58)), 0, 0)) = some (r1, r2, r3, r4, r5) := h
  clear h
  obtain ⟨y210, hy210⟩ : ∃ y_ : List (S43), y_ = (([(⟨(⟨#[99, 97, 114, 101]⟩ : ByteArray), 0, ([] : List (S41)), 0, 0, 0⟩ : S43)] : List (S43))) := ⟨_, rfl⟩
  replace H : (some (([] : List (List (S41))), y210, ([] : List (S58)), 0, 0)) = some (r1, r2, r3, r4, r5) := by first | (rw [hy210]; with_reducible exact H) | (have H2_ := (Option.bind_some _ _).symm.trans H; rw [hy210]; with_reducible exact H2_) | (have H2_ := (Option.bind_some _ _).symm.trans H; with_reducible exact H2_) | with_reducible exact H | (rw [hy210]; exact H) | exact H
  have Ny210 := AM hy210
  clear hy210
  simp only [Option.some.injEq, Prod.mk.injEq] at H
  obtain ⟨rfl, rfl, rfl, rfl, rfl⟩ := H
  go_enter Tryd.func32, Tryd.ntmps32
  go_wp2_with (first | ((with_reducible refine gD (N := 0) rfl ?_); refine bE ?hg (N := 0) ?hd (cs := #[.slice none 0 0, .slice none 0 0, .slice none 0 0, .int .i64 0, .int .i64 0]) (t := 51) ?hr ?_; (case hd => rfl); (case hg => rfl); (case hr => first | (go_simp; done) | (go_simp; rfl)); intro gb209 hg w1 hbox hb; have n0_ := AM (bT bQ hb); have n1_ := AM (hbox); have n2_ := AM ((by rw [hg]; exact (bZ bQ) : w.heap.size ≤ gb209)); have n3_ := AM ((by rw [hg]; exact (bZ bQ) : w.heap.size ≤ gb209)); clear HB; have HB := n0_; have BK209 := n1_; have GW209 := n2_; have GE209 := n3_; clear n0_ n1_ n2_ n3_; clear hb hbox hg) | ((with_reducible refine gD (N := 2) rfl ?_); refine Kd.S_lit k43 _ 68 ?hg (N := 2) ?hd (xs := ([(⟨(⟨#[99, 97, 114, 101]⟩ : ByteArray), 0, ([] : List (S41)), 0, 0, 0⟩ : S43)] : List (S43))) (inner := [.string (⟨#[99, 97, 114, 101]⟩ : ByteArray), .int .i64 0, .slice none 0 0, .int .i64 0, .int .i64 0, .int .i64 0]) (ok := fun _ => True) (okp := fun _ => True) ?hr ?hp (fun _ hk => hk) trivial (Below.refl _ _) (Nat.le_refl _) (by simp) ?_; (case hd => rfl); (case hg => rfl); (case hr => first | (go_simp; done) | (go_simp; rfl)); (case hp => exact (Reps.c6 (show Kd.M k43 _ _ _ (⟨(⟨#[99, 97, 114, 101]⟩ : ByteArray), 0, ([] : List (S41)), 0, 0, 0⟩ : S43) [.string (⟨#[99, 97, 114, 101]⟩ : ByteArray), .int .i64 0, .slice none 0 0, .int .i64 0, .int .i64 0, .int .i64 0] from (k43_mkM _ _ _ (⟨(⟨#[99, 97, 114, 101]⟩ : ByteArray), 0, ([] : List (S41)), 0, 0, 0⟩ : S43) (Kd.R_nil _ _ _ _ _))) (Reps.none _ _))); intro v211 w2 ho3 hb hg_ hnew_; clear hg_ hnew_; (first | rw [← Ny210.out] at ho3 | (simp only [Int.reduceToNat] at ho3; rw [← Ny210.out] at ho3)); have n0_ := AM (Kd.S_lower ho3 (bZ bQ)); have n1_ := AM (kB (g := gb209) (o := .cells #[.slice none 0 0, .slice none 0 0, .slice none 0 0, .int .i64 0, .int .i64 0] 51 (0, 0)) (kW BK209) hb); have n2_ := AM (bT bQ hb); clear BK209; clear HB; have HO212 := n0_; have BK209 := n1_; have HB := n2_; clear n0_ n1_ n2_; clear hb ho3; obtain ⟨Ao4, co4, eo4⟩ := Kd.S_slice HO212.out; subst eo4; obtain ⟨_, _, _, _, _, _, _, _, _, _⟩ := bX5 BK209.out))
  refine bodyPost_ret (results_cell_row rfl _ _ gb209 51 #[.slice none 0 0, .slice Ao4 y210.length co4, .slice none 0 0, .int .i64 0, .int .i64 0] (0, 0) _ rfl (by (with_reducible repeat (first | refine kD ?_ _ | refine k1_ ?_ | refine kA ?_ _)); refine kP (cs := #[.slice none 0 0, .slice Ao4 y210.length co4, .slice none 0 0, .int .i64 0, .int .i64 0]) ?_ 4 _ rfl; (with_reducible repeat (first | refine kD ?_ _ | refine k1_ ?_ | refine kA ?_ _)); refine kP (cs := #[.slice none 0 0, .slice Ao4 y210.length co4, .slice none 0 0, .int .i64 0, .int .i64 0]) ?_ 3 _ rfl; (with_reducible repeat (first | refine kD ?_ _ | refine k1_ ?_ | refine kA ?_ _)); refine kP (cs := #[.slice none 0 0, .slice Ao4 y210.length co4, .slice none 0 0, .int .i64 0, .int .i64 0]) ?_ 2 _ rfl; (with_reducible repeat (first | refine kD ?_ _ | refine k1_ ?_ | refine kA ?_ _)); refine kP (cs := #[.slice none 0 0, .slice none 0 0, .slice none 0 0, .int .i64 0, .int .i64 0]) ?_ 1 _ rfl; (with_reducible repeat (first | refine kD ?_ _ | refine k1_ ?_ | refine kA ?_ _)); refine kP (cs := #[.slice none 0 0, .slice none 0 0, .slice none 0 0, .int .i64 0, .int .i64 0]) ?_ 0 _ rfl; (with_reducible repeat (first | refine kD ?_ _ | refine k1_ ?_ | refine kA ?_ _)); exact BK209.out) Tryd.underlying51 rfl (by kernel_rfl)) rfl ?_
  exact ⟨_, _, _, by first | rfl | (simp [errW_none, errW_some] <;> rfl) | (simp [*, errW_none, errW_some] <;> rfl), by first | exact Kd.S_nil _ _ _ _ _ | exact Kd.N_nil _ _ _ _ _ | exact Kd.V_nil _ _ _ _ _ | exact Kd.Q_nil _ _ _ _ _ | exact Kd.R_nil _ _ _ _ _, by (with_reducible repeat (first | apply Kd.S_alloc | apply Kd.S_drewN | apply Kd.S_drew)); exact Kd.S_mono (Kd.S_far (p := ⟨gb209, 4, none⟩) (Kd.S_far (p := ⟨gb209, 3, none⟩) (Kd.S_far (p := ⟨gb209, 2, none⟩) (Kd.S_far (p := ⟨gb209, 1, none⟩) (Kd.S_far (p := ⟨gb209, 0, none⟩) (Kd.S_types HO212.out BK209.out (by decide)) (fun _ hk => hk.2) (.slice none 0 0)) (fun _ hk => hk.2) (.slice Ao4 y210.length co4)) (fun _ hk => hk.2) (.slice none 0 0)) (fun _ hk => hk.2) (.int .i64 0)) (fun _ hk => hk.2) (.int .i64 0)) (fun _ hk => trivial), by first | exact Kd.R_nil _ _ _ _ _ | exact Kd.N_nil _ _ _ _ _ | exact Kd.V_nil _ _ _ _ _ | exact Kd.Q_nil _ _ _ _ _ | exact Kd.S_nil _ _ _ _ _, by repeat (first | (with_reducible first | exact HB.out | apply bA | apply bD | apply b1 | refine bS ?_ GE209.out) | exact HB.out)⟩









end Go.Proofs.YtjljhianehhlgaaDoor.K
