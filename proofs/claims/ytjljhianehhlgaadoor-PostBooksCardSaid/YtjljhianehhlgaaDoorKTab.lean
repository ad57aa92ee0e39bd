import Derived.Test.YtjljhianehhlgaaDoorKOpen
import Derived.Test.YtjljhianehhlgaaDoorQ0
import Derived.WalkKit
import Derived.ProofKit
import Derived.OpenShut
import Derived.WideShapes
/- A list of entries that comes in: what its reading says of its cells. -/
namespace Go.Proofs.YtjljhianehhlgaaDoor.KTab
open Go Go.RowKit Go.ChangeShapes Go.WideShapes Go.Proofs.YtjljhianehhlgaaDoorW.PrintWords Go.Proofs.YtjljhianehhlgaaDoor.KOpen Go.Proofs.YtjljhianehhlgaaDoor.K
section
variable {H : Type} {enc : TypeId × Value → H} {W : World}
/-- An entry that may come in. -/
def Came (x : S31) : Prop := x.f0.size ≤ maxLen ∧ -9223372036854775808 ≤ x.f1 ∧ x.f1 ≤ 9223372036854775807
theorem op31 : OpK enc Tryd.prog W k31 31 Came :=
  op_imp (op_iso (fun b => ⟨b.1, b.2⟩) (fun b => rfl) (op_struct Tryd.underlying31 (by kernel_rfl) (opFrom_cons rfl (by kernel_rfl) (op_string Tryd.underlying9) (opFrom_one rfl (by kernel_rfl) rfl (op_int Tryd.underlying2))))) (fun x h => ⟨h.1, by
    have h2 := h.2
    simp [Lit.wf, IntKind.min, IntKind.max, IntKind.signed, IntKind.bits] at h2
    exact h2⟩)
set_option maxRecDepth 100000 in
/-- A list of entries, opened. -/
theorem open_entries {r : Reach} {b0 : Nat} {v : Value} {d : DataW H} {p : List MemPlace} (hv : Value.okWide Tryd.prog W r b0 27 v) (h : DataW.Trod enc Tryd.prog W 0 (fun _ => true) true 27 v d p) :
    ∃ (A : Option Addr) (c : Nat) (l : List S31), v = .slice A l.length c ∧ k31.C W A l.length l ∧ l.length ≤ c ∧ l.length ≤ maxLen ∧ ∀ x ∈ l, Came x := by
  obtain ⟨a, len, cap, rfl⟩ := okWide_slice Tryd.underlying27 hv
  obtain ⟨fuel, hf⟩ := h
  obtain ⟨l, ⟨A, c, h0, hc, hr⟩, hs⟩ := op_slice Tryd.underlying27 (by kernel_rfl) op31 fuel _ _ hf
  have h1 : Value.slice a len cap = .slice A l.length c := by
    have h2 : [Value.slice a len cap] = [.slice A l.length c] := h0
    injection h2
  exact ⟨A, c, l, h1, hr, hc, hs⟩
end
theorem own : ownKnob Tryd.prog.godebug = none := by kernel_rfl
theorem laidOut : laidOutB Tryd.prog = true := by kernel_rfl
end Go.Proofs.YtjljhianehhlgaaDoor.KTab
