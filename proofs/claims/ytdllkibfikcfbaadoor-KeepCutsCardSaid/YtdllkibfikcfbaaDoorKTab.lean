import Derived.Test.YtdllkibfikcfbaaDoorKOpen
import Derived.Test.YtdllkibfikcfbaaDoorPA
import Derived.WalkKit
import Derived.ProofKit
import Derived.OpenShut
import Derived.WideShapes
/- A table that comes in: what its reading says of its cells. -/
namespace Go.Proofs.YtdllkibfikcfbaaDoor.KTab
open Go Go.RowKit Go.ChangeShapes Go.WideShapes Go.Proofs.YtdllkibfikcfbaaDoorW.PrintWords Go.Proofs.YtdllkibfikcfbaaDoor.KOpen Go.Proofs.YtdllkibfikcfbaaDoor.K Go.Proofs.YtdllkibfikcfbaaDoor.PA
section
variable {H : Type} {enc : TypeId × Value → H} {W : World}
theorem op41 : OpK enc Tryd.prog W k41 52 (fun _ => True) :=
  op_imp (op_iso (fun b => ⟨b.1, b.2.1, b.2.2⟩) (fun b => rfl) (op_struct Tryd.underlying52 (by kernel_rfl) (opFrom_cons rfl (by kernel_rfl) (op_int Tryd.underlying2) (opFrom_cons rfl (by kernel_rfl) (op_int Tryd.underlying3) (opFrom_one rfl (by kernel_rfl) rfl (op_int Tryd.underlying3)))))) (fun _ _ => trivial)
theorem op39 : OpK enc Tryd.prog W (Kd.slice 52 k41) 47 (fun l => l.length ≤ maxLen) := op_imp (op_slice Tryd.underlying47 (by kernel_rfl) op41) (fun _ h => h.1)
theorem op43 : OpK enc Tryd.prog W k43 49 (fun x => x.f0.size ≤ maxLen ∧ x.f2.length ≤ maxLen) :=
  op_imp (op_iso (fun b => ⟨b.1, b.2.1, b.2.2.1, b.2.2.2.1, b.2.2.2.2.1, b.2.2.2.2.2⟩) (fun b => rfl) (op_struct Tryd.underlying49 (by kernel_rfl) (opFrom_cons rfl (by kernel_rfl) (op_string Tryd.underlying9) (opFrom_cons rfl (by kernel_rfl) (op_int Tryd.underlying3) (opFrom_cons rfl (by kernel_rfl) op39 (opFrom_cons rfl (by kernel_rfl) (op_int Tryd.underlying2) (opFrom_cons rfl (by kernel_rfl) (op_int Tryd.underlying2) (opFrom_one rfl (by kernel_rfl) rfl (op_int Tryd.underlying3))))))))) (fun _ h => ⟨h.1, h.2.2.1⟩)
theorem op58 : OpK enc Tryd.prog W k58 61 (fun x => x.f0.size ≤ maxLen) :=
  op_imp (op_iso (fun b => ⟨b.1, b.2.1, b.2.2.1, b.2.2.2⟩) (fun b => rfl) (op_struct Tryd.underlying61 (by kernel_rfl) (opFrom_cons rfl (by kernel_rfl) (op_string Tryd.underlying9) (opFrom_cons rfl (by kernel_rfl) (op_int Tryd.underlying3) (opFrom_cons rfl (by kernel_rfl) (op_int Tryd.underlying3) (opFrom_one rfl (by kernel_rfl) rfl (op_int Tryd.underlying3))))))) (fun _ h => h.1)
theorem op26 : OpK enc Tryd.prog W (Kd.pair (Kd.slice 47 (Kd.slice 52 k41)) (Kd.pair (Kd.slice 49 k43) (Kd.pair (Kd.slice 61 k58) (Kd.pair (Kd.int .i64) (Kd.int .i64))))) 26 (fun b => Sized b.1 b.2.1 b.2.2.1) :=
  op_imp (op_struct Tryd.underlying26 (by kernel_rfl) (opFrom_cons rfl (by kernel_rfl) (op_slice Tryd.underlying22 (by kernel_rfl) op39) (opFrom_cons rfl (by kernel_rfl) (op_slice Tryd.underlying23 (by kernel_rfl) op43) (opFrom_cons rfl (by kernel_rfl) (op_slice Tryd.underlying24 (by kernel_rfl) op58) (opFrom_cons rfl (by kernel_rfl) (op_int Tryd.underlying3) (opFrom_one rfl (by kernel_rfl) rfl (op_int Tryd.underlying3)))))))
    (fun _ h => ⟨h.1.1, h.1.2, h.2.1.1, h.2.1.2, h.2.2.1.1, h.2.2.1.2⟩)
/-- A table, opened. -/
theorem open_table {r : Reach} {b0 : Nat} {v : Value} {d : DataW H} {p : List MemPlace} (hv : Value.okWide Tryd.prog W r b0 26 v) (h : DataW.Trod enc Tryd.prog W 0 (fun _ => true) true 26 v d p) :
    ∃ (A0 : Option Addr) (c0 : Nat) (l0 : List (List S41)) (A1 : Option Addr) (c1 : Nat) (l1 : List S43) (A2 : Option Addr) (c2 : Nat) (l2 : List S58) (x y : Int),
      v = .agg #[.slice A0 l0.length c0, .slice A1 l1.length c1, .slice A2 l2.length c2, .int .i64 x, .int .i64 y] ∧ Kd.C (Kd.slice 52 k41) W A0 l0.length l0 ∧ l0.length ≤ c0 ∧ Kd.C k43 W A1 l1.length l1 ∧ l1.length ≤ c1 ∧ Kd.C k58 W A2 l2.length l2 ∧ l2.length ≤ c2 ∧ Sized l0 l1 l2 := by
  obtain ⟨cs, rfl, _⟩ := okWide_struct Tryd.underlying26 hv
  obtain ⟨fuel, hf⟩ := h
  obtain ⟨⟨l0, l1, l2, x, y⟩, hK, hs⟩ := op26 fuel _ _ hf
  obtain ⟨_, _, h0, ⟨A0, c0, rfl, hc0, hr0⟩, ⟨_, _, rfl, ⟨A1, c1, rfl, hc1, hr1⟩, ⟨_, _, rfl, ⟨A2, c2, rfl, hc2, hr2⟩, ⟨_, _, rfl, rfl, rfl⟩⟩⟩⟩ := hK
  refine ⟨A0, c0, l0, A1, c1, l1, A2, c2, l2, x, y, ?_, hr0, hc0, hr1, hc1, hr2, hc2, hs⟩
  have h1 : cs = #[.slice A0 l0.length c0, .slice A1 l1.length c1, .slice A2 l2.length c2, .int .i64 x, .int .i64 y] := by
    apply Array.toList_inj.1
    simpa [Value.cells] using h0
  rw [h1]
end
theorem own : ownKnob Tryd.prog.godebug = none := by kernel_rfl
theorem laidOut : laidOutB Tryd.prog = true := by kernel_rfl
end Go.Proofs.YtdllkibfikcfbaaDoor.KTab
