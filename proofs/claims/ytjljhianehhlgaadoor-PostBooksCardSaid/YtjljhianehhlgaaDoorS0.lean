import Derived.Test.YtjljhianehhlgaaDoorV0
import Derived.Shelf.SlSortCmp.WholeK
import Derived.Sort.Walk0
import Derived.Test.YtjljhianehhlgaaDoorShelf
import Derived.Laws.Cover1
/-! ### slices.SortFunc at entries, by account -/
namespace Go.Proofs.YtjljhianehhlgaaDoor.M
open Go Go.RowKit Go.Maps Go.Shelf Go.Lib Go.Sort Go.Proofs.YtjljhianehhlgaaDoorW.PrintWords Go.Proofs.YtjljhianehhlgaaDoor.K Go.Proofs.YtjljhianehhlgaaDoor.V
set_option linter.unusedVariables false
theorem nan_t (s : ByteArray) (w : World) : Calls Tryd.prog 71 #[.string s] w fun e w' => e = .returned (.bool false) ∧ w' = w := by
  go_enter Tryd.func71, Tryd.ntmps71
  go_wp2
  go_ret
  exact ⟨by simp, rfl⟩
/-- What cmp.Compare says of two texts. -/
def cmpS (a b : List UInt8) : Int := if a < b then -1 else if a = b then 0 else 1
theorem cmp_t (s r : ByteArray) (w : World) : Calls Tryd.prog 39 #[.string s, .string r] w fun e w' => e = .returned (.int .i64 (cmpS s.data.toList r.data.toList)) ∧ w' = w := by
  have e1 := bytesLess_eq s.toList r.toList
  rw [Lib.toList_data, Lib.toList_data] at e1
  by_cases h1 : s.data.toList < r.data.toList
  · rw [decide_eq_true h1, ← Lib.toList_data, ← Lib.toList_data] at e1
    have hc : cmpS s.data.toList r.data.toList = -1 := if_pos h1
    rw [hc]
    clear h1 hc
    go_enter Tryd.func39, Tryd.ntmps39
    go_wp2_with (go_at_call 71; refine (nan_t _ _).mono ?_; rintro e w' ⟨rfl, hw⟩; rw [hw])
    go_ret
    exact ⟨rfl, rfl⟩
  · rw [decide_eq_false h1, ← Lib.toList_data, ← Lib.toList_data] at e1
    by_cases h2 : s.data.toList = r.data.toList
    · have hc : cmpS s.data.toList r.data.toList = 0 := by unfold cmpS; rw [if_neg h1, if_pos h2]
      have e2 : (s.toList == r.toList) = true := by rw [Lib.toList_data, Lib.toList_data, h2]; exact beq_self_eq_true _
      rw [hc]
      clear h1 h2 hc
      go_enter Tryd.func39, Tryd.ntmps39
      go_wp2_with (go_at_call 71; refine (nan_t _ _).mono ?_; rintro e w' ⟨rfl, hw⟩; rw [hw])
      go_ret
      exact ⟨rfl, rfl⟩
    · have hc : cmpS s.data.toList r.data.toList = 1 := by unfold cmpS; rw [if_neg h1, if_neg h2]
      have e2 : (s.toList == r.toList) = false := by rw [Lib.toList_data, Lib.toList_data]; exact beq_eq_false_iff_ne.mpr h2
      rw [hc]
      clear h1 h2 hc
      go_enter Tryd.func39, Tryd.ntmps39
      go_wp2_with (go_at_call 71; refine (nan_t _ _).mono ?_; rintro e w' ⟨rfl, hw⟩; rw [hw])
      go_ret
      exact ⟨rfl, rfl⟩
instance : Inhabited S31 := ⟨z31⟩
def cfE (x y : S31) : Int := cmpS (key x) (key y)
theorem lt_E (x y : S31) : ltOf cfE x y = decide (key x < key y) := by
  unfold ltOf cfE cmpS
  by_cases h1 : key x < key y
  · simp [h1]
  · by_cases h2 : key x = key y
    · rw [if_neg h1, if_pos h2, decide_eq_false h1]; rfl
    · rw [if_neg h1, if_neg h2, decide_eq_false h1]; rfl
theorem swo_E : SWO (ltOf cfE) where
  irrefl x := by rw [lt_E]; exact decide_eq_false (List.lt_irrefl _)
  trans x y z h1 h2 := by rw [lt_E] at *; exact decide_eq_true (List.lt_trans (of_decide_eq_true h1) (of_decide_eq_true h2))
  ntrans x y z h1 h2 := by
    rw [lt_E] at *
    have h1 := List.not_lt.1 (of_decide_eq_false h1)
    have h2 := List.not_lt.1 (of_decide_eq_false h2)
    exact decide_eq_false (List.not_lt.2 (List.le_trans h2 h1))
def encE (x : S31) : List Value := [.string x.f0, .int .i64 x.f1]
set_option maxHeartbeats 1000000 in
theorem closure38 (x y : S31) (W : World) : Calls Tryd.prog 38 #[.agg (encE x).toArray, .agg (encE y).toArray] W fun e w' => e = .returned (.int .i64 (cfE x y)) ∧ ∃ q os', w' = grow (W.drewN q) os' := by
  have hcon := fun W' => cmp_t x.f0 y.f0 W'
  have e : cmpS x.f0.data.toList y.f0.data.toList = cfE x y := rfl
  rw [e] at hcon
  clear e
  generalize cfE x y = r at hcon ⊢
  unfold encE
  go_enter Tryd.func38, Tryd.ntmps38
  go_wp2_with (go_at_call 39; refine (hcon _).mono ?_; rintro e w' ⟨rfl, rfl⟩)
  go_ret
  exact ⟨rfl, 0, _, by rw [alloc_eq_grow, alloc_eq_grow, grow_grow]; rfl⟩
theorem lays38 (blk off size : Nat) (w : World) : CmpLays Tryd.prog 38 #[] encE 2 cfE blk off size w := fun _ _ _ _ x y => closure38 x y _
theorem sort_t (blk off cap : Nat) (d : Array S31) (w : World) (hH : HoldsK encE 2 w blk off d) (hblk : blk < w.heap.size) (hsz : d.size < 4611686018427387904) :
    Calls Tryd.prog 37 #[.slice (some ⟨blk, off, none⟩) d.size cap, .func (.func 38) #[] #[]] w fun e w' => e = .returned (.tuple #[]) ∧ ∃ d' n os, PermIn 0 d.size d d' ∧ SortedIn (ltOf cfE) 0 d.size d' ∧ w' = sortWorldK encE 2 w blk off n d' os := by
  have eg : ∀ args w, (callFunc 38 args).run Tryd.prog w = .ok (.enter 38 args) w := enters_of Tryd.func38 (by kernel_rfl) rfl
  have hcon := AnyQ.slices_SortFunc Tryd.sortE 2 Tryd.isAgg31 Tryd.sizeOf31 encE (fun _ => rfl) (fun x v hv => by simp [encE] at hv; rcases hv with rfl | rfl <;> rfl) cfE swo_E 38 #[] blk off cap d w eg (lays38 blk off d.size w) hH hblk hsz
  exact hcon
end Go.Proofs.YtjljhianehhlgaaDoor.M
