import Derived.Test.YtodijkdmcjnpkaaDoorKOpen
import Derived.Test.YtodijkdmcjnpkaaDoorKx0
import Derived.Test.YtodijkdmcjnpkaaDoorRows
import Derived.WalkKit
import Derived.ProofKit
import Derived.OpenShut
import Derived.WideShapes
import Derived.Handy
import Derived.Lay
import Derived.Stop.LaidErr
import Derived.Lib.LaidTab
import Derived.MakeChecks
/- A code, a part of a year that come in; the library's table of powers of ten. -/
namespace Go.Proofs.YtodijkdmcjnpkaaDoor.KTab
open Go Go.RowKit Go.ChangeShapes Go.WideShapes Go.Proofs.YtodijkdmcjnpkaaDoorW.PrintWords Go.Proofs.YtodijkdmcjnpkaaDoor.KOpen Go.Proofs.YtodijkdmcjnpkaaDoor.K
def In (a : Int) : Prop := -9223372036854775808 ≤ a ∧ a ≤ 9223372036854775807
section
variable {H : Type} {enc : TypeId × Value → H} {W : World}
theorem op23 : OpK enc Tryd.prog W (Kd.pair (Kd.int .i64) (Kd.pair (Kd.int .i64) (Kd.pair (Kd.int .i64) (Kd.pair (Kd.int .i64) Kd.bool)))) 23 (fun b => In b.1 ∧ In b.2.1 ∧ In b.2.2.1 ∧ In b.2.2.2.1) :=
  op_imp (op_struct Tryd.underlying23 (by kernel_rfl) (opFrom_cons rfl (by kernel_rfl) (op_int Tryd.underlying3) (opFrom_cons rfl (by kernel_rfl) (op_int Tryd.underlying3) (opFrom_cons rfl (by kernel_rfl) (op_int Tryd.underlying2) (opFrom_cons rfl (by kernel_rfl) (op_int Tryd.underlying3) (opFrom_one rfl (by kernel_rfl) rfl (op_bool Tryd.underlying4)))))))
    (fun _ h => ⟨in64 h.1, in64 h.2.1, in64 h.2.2.1, in64 h.2.2.2.1⟩)
/-- A code, opened. -/
theorem open_code {r : Reach} {b0 : Nat} {v : Value} {d : DataW H} {p : List MemPlace} (hv : Value.okWide Tryd.prog W r b0 23 v) (h : DataW.Trod enc Tryd.prog W 0 (fun _ => true) true 23 v d p) :
    ∃ (sc kd am fl : Int) (al : Bool), v = .agg #[.int .i64 sc, .int .i64 kd, .int .i64 am, .int .i64 fl, .bool al] ∧ In sc ∧ In kd ∧ In am ∧ In fl := by
  obtain ⟨cs, rfl, _⟩ := okWide_struct Tryd.underlying23 hv
  obtain ⟨fuel, hf⟩ := h
  obtain ⟨⟨sc, kd, am, fl, al⟩, hK, hs⟩ := op23 fuel _ _ hf
  obtain ⟨_, _, h0, rfl, ⟨_, _, rfl, rfl, ⟨_, _, rfl, rfl, ⟨_, _, rfl, rfl, rfl⟩⟩⟩⟩ := hK
  refine ⟨sc, kd, am, fl, al, ?_, hs⟩
  have h1 : cs = #[.int .i64 sc, .int .i64 kd, .int .i64 am, .int .i64 fl, .bool al] := by
    apply Array.toList_inj.1
    simpa [Value.cells] using h0
  rw [h1]
theorem op45 : OpK enc Tryd.prog W (Kd.pair (Kd.int .i64) (Kd.int .i64)) 45 (fun b => In b.1 ∧ In b.2) :=
  op_imp (op_array2 Tryd.underlying45 (by kernel_rfl) (by kernel_rfl) rfl (op_int Tryd.underlying3)) (fun _ h => ⟨in64 h.1, in64 h.2⟩)
/-- Two whole numbers, opened. -/
theorem open_pair {r : Reach} {b0 : Nat} {v : Value} {d : DataW H} {p : List MemPlace} (hv : Value.okWide Tryd.prog W r b0 45 v) (h : DataW.Trod enc Tryd.prog W 0 (fun _ => true) true 45 v d p) :
    ∃ (x y : Int), v = .agg #[.int .i64 x, .int .i64 y] ∧ In x ∧ In y := by
  obtain ⟨cs, rfl, _⟩ := okWide_arr Tryd.underlying45 hv
  obtain ⟨fuel, hf⟩ := h
  obtain ⟨⟨x, y⟩, hK, hs⟩ := op45 fuel _ _ hf
  obtain ⟨_, _, h0, rfl, rfl⟩ := hK
  refine ⟨x, y, ?_, hs⟩
  have h1 : cs = #[.int .i64 x, .int .i64 y] := by
    apply Array.toList_inj.1
    simpa [Value.cells] using h0
  rw [h1]
end
def laid : List (String × DataW Unit) := [("math/bits.deBruijn32tab", Rows.laid_math_bits_deBruijn32tab), ("math/bits.deBruijn64tab", Rows.laid_math_bits_deBruijn64tab), ("internal/strconv.uint64pow10", Rows.laid_internal_strconv_uint64pow10)]
theorem tabOf {W : World} (h : laidMetH Tryd.prog laid W) : TB W := by
  rw [MakeChecks.laidMetH_plain _ _ _ (by kernel_rfl)] at h
  have h2 := laidMet.tail (laidMet.tail h)
  exact Lib.tabIs_of_head (g := 0) (t := 83) (e := 74) (n := 20) (by kernel_rfl) (by kernel_rfl) (by kernel_rfl) (by kernel_rfl) (by kernel_rfl) (by kernel_rfl) h2
theorem own : ownKnob Tryd.prog.godebug = none := by kernel_rfl
theorem laidOut : laidOutB Tryd.prog = true := by kernel_rfl
end Go.Proofs.YtodijkdmcjnpkaaDoor.KTab
