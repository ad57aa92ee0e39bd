/- For every table and every choice that come in, KeepChoices answers true: what is kept by a choice is the whole without its rates, a choice of what there isn't is refused, and none keeps less than the worst one. No condition. -/
import Derived.Test.YtdllkibfikcfbaaRows
import Derived.Test.YtdllkibfikcfbaaKx14
import Derived.Test.YtdllkibfikcfbaaPE
import Derived.Test.YtdllkibfikcfbaaKTab
import Derived.WalkKit
import Derived.ProofKit
import Derived.OpenShut
import Derived.ShutString
import Derived.ChangeOld
import Derived.Below
import Derived.SizedLaws
namespace Go.Proofs.Ytdllkibfikcfbaa.keepChoices
open Go.ChangeShapes Go.WideShapes Go.ChangeAt Go.RowKit Go.Proofs.Ytdllkibfikcfbaa.KTab Go.Proofs.Ytdllkibfikcfbaa.K Go.Proofs.Ytdllkibfikcfbaa.KOpen Go.Proofs.YtdllkibfikcfbaaW.PrintWords
open Go.ChangeMaps (open_string shut_string)
set_option linter.unusedVariables false
section
variable {H : Type} {enc : TypeId × Value → H} {W : World}
theorem op33 : OpK enc Try.prog W (Kd.pair (Kd.int .i64) (Kd.pair (Kd.int .i64) (Kd.pair (Kd.slice 3 (Kd.int .i64)) (Kd.int .i64)))) 33 (fun _ => True) :=
  op_imp (op_struct Try.underlying33 (by kernel_rfl) (opFrom_cons rfl (by kernel_rfl) (op_int Try.underlying3) (opFrom_cons rfl (by kernel_rfl) (op_int Try.underlying3) (opFrom_cons rfl (by kernel_rfl) (op_slice Try.underlying31 (by kernel_rfl) (op_int Try.underlying3)) (opFrom_one rfl (by kernel_rfl) rfl (op_int Try.underlying3)))))) (fun _ _ => trivial)
/-- A choice, opened. -/
theorem open_choice {r : Reach} {b0 : Nat} {v : Value} {d : DataW H} {p : List MemPlace} (hv : Value.okWide Try.prog W r b0 33 v) (h : DataW.Trod enc Try.prog W 0 (fun _ => true) true 33 v d p) :
    ∃ (a b : Int) (A : Option Addr) (c : Nat) (l : List Int) (z : Int), v = .agg #[.int .i64 a, .int .i64 b, .slice A l.length c, .int .i64 z] ∧ Kd.C (Kd.int .i64) W A l.length l ∧ l.length ≤ c := by
  obtain ⟨cs, rfl, _⟩ := okWide_struct Try.underlying33 hv
  obtain ⟨fuel, hf⟩ := h
  obtain ⟨⟨a, b, l, z⟩, hK, _⟩ := op33 fuel _ _ hf
  obtain ⟨_, _, h0, rfl, ⟨_, _, rfl, rfl, ⟨_, _, rfl, ⟨A, c, rfl, hc, hr⟩, rfl⟩⟩⟩ := hK
  refine ⟨a, b, A, c, l, z, ?_, hr, hc⟩
  have h1 : cs = #[.int .i64 a, .int .i64 b, .slice A l.length c, .int .i64 z] := by
    apply Array.toList_inj.1
    simpa [Value.cells] using h0
  rw [h1]
end
set_option maxRecDepth 100000 in
theorem lifted (os : Os) (started : os.Started) (H : Type) (enc : TypeId × Value → H) :
    ReturnsInHanded {} Try.checked os 4 .any (Rows.keepChoicesSpec.pre6 enc Try.prog Try.f4 Rows.keepChoicesRow.domain false) (Rows.keepChoicesSpec.post enc Try.prog Try.f4 false true false false) := by
  refine returnsInHanded_of_change_sized (C := Try.checked) own started (by kernel_rfl) Try.func4
    (ChangeSpec.witness6 (enc := enc) (C := Try.checked) false ⟨#[], #[.agg #[.slice none 0 0, .slice none 0 0, .slice none 0 0, .int .i64 0, .int .i64 0], .agg #[.int .i64 0, .int .i64 0, .slice none 0 0, .int .i64 0]], []⟩ 8 (by kernel_rfl) (by kernel_rfl) (by kernel_rfl) (by kernel_rfl)) ?_
  intro W base args ds gs before hval0 hW hcnd hsz0 _
  have hval : ∀ (j : Nat) t v, Try.f4.params[j]? = some t → args[j]? = some v → Value.okWide Try.prog W .any base t v := hval0
  have hW' := hW
  obtain ⟨p, q, hA0, hV, rfl, hfz, hnd⟩ := hW
  have hA : DataW.TrodAll enc Try.prog W 0 (fun _ => true) true Try.f4.params.toList args.toList ds p := hA0
  rw [Try.params4] at hA hval
  obtain ⟨v0, vs0, d0, ds0, p0, q0, hargs, rfl, rfl, h0, r0⟩ := trodAll_cons hA
  obtain ⟨v1, vs1, d1, ds1, p1, q1, hargs1, rfl, rfl, h1, r1⟩ := trodAll_cons r0
  obtain ⟨rfl, rfl, rfl⟩ := trodAll_nil r1
  obtain rfl : args = #[v0, v1] := by cases args; simp_all
  obtain ⟨rfl, rfl⟩ := trodVars_none hV
  have k0 := h0
  have k1 := h1
  have lt0 : ∀ x ∈ p0, x.block < W.heap.size := by obtain ⟨m, hm⟩ := k0; exact DataW.trod_lt m _ _ _ hm
  have lt1 : ∀ x ∈ p1, x.block < W.heap.size := by obtain ⟨m, hm⟩ := k1; exact DataW.trod_lt m _ _ _ hm
  obtain ⟨A0, c0, l0, A1, c1, l1, A2, c2, l2, x, y, rfl, hr0, hc0, hr1, hc1, hr2, hc2, hs⟩ := open_table (hval 0 26 v0 rfl rfl) h0
  obtain ⟨a, b, A3, c3, l3, z, rfl, hr3, hc3⟩ := open_choice (hval 1 33 v1 rfl rfl) h1
  clear hA0 hval0 hsz0
  obtain ⟨k, hk⟩ := PA.keepChoices_pure l0 l1 l2 x y a b l3 z hs
  refine (stipendlaw10_KeepChoices.calls k _ _ l0 _ _ l1 _ _ l2 x y a b _ _ l3 z true W hr0 hc0 hr1 hc1 hr2 hc2 hr3 hc3 rfl hk).mono fun e W' ⟨he, bel⟩ => ?_
  subst he
  exact ⟨_, rfl, _, _, _, [], _, [], hW', trodAll_mk1 (shut_bool Try.underlying4 _), (trodAll_cons_mk (Below.trod laidOut (by kernel_rfl) (of_decide_eq_true (by kernel_rfl)) k0 bel lt0) (trodAll_cons_mk (Below.trod laidOut (by kernel_rfl) (of_decide_eq_true (by kernel_rfl)) k1 bel lt1) trodAll_mk0)), rfl, bel.frame _, fun h => by cases h⟩
theorem over : Rows.keepChoicesRow.holds Try.pinned (OpenSpec.ofChange Rows.keepChoicesSpec) :=
  OpenClaim.holds_of_wide 4 Try.f4 rfl rfl rfl rfl rfl rfl rfl ⟨rfl, rfl, rfl, rfl, rfl⟩ rfl rfl rfl rfl rfl (by kernel_rfl) Try.func4 (by kernel_rfl)
    (of_decide_eq_true (by kernel_rfl)) (by unfold Func.isWrapper; first | (rw [if_pos (by decide +kernel)]; kernel_rfl) | (rw [if_neg (by decide +kernel)]; exact ⟨rfl, rfl⟩))
    (fun os started H enc _ => lifted os started H enc)
theorem proved : Rows.KeepChoicesSaid := over
#print axioms proved
end Go.Proofs.Ytdllkibfikcfbaa.keepChoices
namespace Go.Proofs.Ytdllkibfikcfbaa
/-- The row, under a short name, for the claim. -/
theorem keepChoices_holds : Rows.KeepChoicesSaid := keepChoices.proved
end Go.Proofs.Ytdllkibfikcfbaa
