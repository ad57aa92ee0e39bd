import Derived.Test.YtjljhianehhlgaaDoorKTab
/- Lists of lists of entries that come in. -/
namespace Go.Proofs.YtjljhianehhlgaaDoor.KTab
open Go Go.RowKit Go.ChangeShapes Go.WideShapes Go.Proofs.YtjljhianehhlgaaDoorW.PrintWords Go.Proofs.YtjljhianehhlgaaDoor.KOpen Go.Proofs.YtjljhianehhlgaaDoor.K
variable {H : Type} {enc : TypeId × Value → H} {W : World}
theorem op27 : OpK enc Tryd.prog W (Kd.slice 31 k31) 27 (fun l => l.length ≤ maxLen ∧ ∀ x ∈ l, Came x) := op_slice Tryd.underlying27 (by kernel_rfl) op31
set_option maxRecDepth 100000 in
/-- A list of lists of entries, opened. -/
theorem open_lists {r : Reach} {b0 : Nat} {v : Value} {d : DataW H} {p : List MemPlace} (hv : Value.okWide Tryd.prog W r b0 22 v) (h : DataW.Trod enc Tryd.prog W 0 (fun _ => true) true 22 v d p) :
    ∃ (A : Option Addr) (c : Nat) (l : List (List S31)), v = .slice A l.length c ∧ (Kd.slice 31 k31).C W A l.length l ∧ l.length ≤ c ∧ l.length ≤ maxLen ∧ ∀ x ∈ l, x.length ≤ maxLen ∧ ∀ y ∈ x, Came y := by
  obtain ⟨a, len, cap, rfl⟩ := okWide_slice Tryd.underlying22 hv
  obtain ⟨fuel, hf⟩ := h
  obtain ⟨l, ⟨A, c, h0, hc, hr⟩, hs⟩ := op_slice Tryd.underlying22 (by kernel_rfl) op27 fuel _ _ hf
  have h1 : Value.slice a len cap = .slice A l.length c := by
    have h2 : [Value.slice a len cap] = [.slice A l.length c] := h0
    injection h2
  exact ⟨A, c, l, h1, hr, hc, hs⟩
end Go.Proofs.YtjljhianehhlgaaDoor.KTab
