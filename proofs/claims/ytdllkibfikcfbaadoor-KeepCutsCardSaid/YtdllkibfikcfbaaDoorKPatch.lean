/- A cut around a statement, and a loop, whose forgotten slots are told by one function of the slot's number. -/
import Derived.Deep.Cut
namespace Go.Proofs.YtdllkibfikcfbaaDoor.KPatch
open Go
def patch (u : Nat → Value) : List (Option Nat) → List Value → List Value
  | [], r => r
  | none :: ms, v :: r => v :: patch u ms r
  | some n :: ms, _ :: r => u n :: patch u ms r
  | _ :: _, [] => []
def keepEq : Nat → List (Option Nat) → List Value → List Value → Prop
  | _, [], r, r' => r = r'
  | i, none :: ms, v :: r, v' :: r' => v = v' ∧ keepEq (i + 1) ms r r'
  | i, some n :: ms, _ :: r, _ :: r' => n = i ∧ keepEq (i + 1) ms r r'
  | _, _ :: _, [], [] => True
  | _, _ :: _, _, _ => False
theorem patch_keep (u : Nat → Value) : ∀ (ms : List (Option Nat)) (i : Nat) (l l' : List Value), keepEq i ms l l' → (∀ j v, l'[j]? = some v → u (i + j) = v) → patch u ms l = l' := by
  intro ms
  induction ms with
  | nil => intro i l l' h _; exact h
  | cons m ms ih =>
    intro i l l' h hu
    have hu' : ∀ (v' : Value) (r' : List Value), l' = v' :: r' → ∀ j v, r'[j]? = some v → u (i + 1 + j) = v := by
      intro v' r' e j v hj
      have := hu (j + 1) v (by rw [e]; simpa using hj)
      rw [← this]
      congr 1
      omega
    cases m with
    | none =>
      match l, l', h with
      | v :: r, v' :: r', h =>
        show v :: patch u ms r = _
        rw [ih (i + 1) r r' h.2 (hu' v' r' rfl), h.1]
      | [], [], _ => rfl
    | some n =>
      match l, l', h with
      | v :: r, v' :: r', h =>
        show u n :: patch u ms r = _
        rw [ih (i + 1) r r' h.2 (hu' v' r' rfl), h.1]
        have := hu 0 v' rfl
        rw [Nat.add_zero] at this
        rw [this]
      | [], [], _ => rfl
theorem patch_at (ms : List (Option Nat)) (l l' : List Value) (h : keepEq 0 ms l l') : patch (fun n => l'.getD n undef) ms l = l' :=
  patch_keep _ ms 0 l l' h (fun j v hj => by
    show l'.getD (0 + j) undef = v
    rw [Nat.zero_add, List.getD_eq_getElem?_getD, hj]
    rfl)
section
variable {P : Program} {Q : Exit → Act → World → Prop} {w : World} {c : Code} {l : List Value} {d : List Deferred}
theorem cutU {K : Act → World → Prop} (ms : List (Option Nat)) (R : (Nat → Value) → World → Prop)
    (rest : ∀ (u : Nat → Value) (wc : World), R u wc → K ⟨(patch u ms l).toArray, d⟩ wc)
    (first : ∀ (J K' : Act → World → Prop), (∀ a' w', (∃ u, R u w' ∧ a' = ⟨(patch u ms l).toArray, d⟩) → J a' w') → (∀ a' w', Met J a' w' → K' a' w') → c.wp P (Exit.then K' Q) ⟨l.toArray, d⟩ w) : c.wp P (Exit.then K Q) ⟨l.toArray, d⟩ w := by
  refine wp_cut (fun a' w' => ∃ u, R u w' ∧ a' = ⟨(patch u ms l).toArray, d⟩) ?_ first
  rintro a' w' ⟨u, hR, rfl⟩
  exact rest u w' hR
theorem meetU {J : Act → World → Prop} {ms : List (Option Nat)} {R : (Nat → Value) → World → Prop} {l' : List Value} {w' : World}
    (hJ : ∀ a' w', (∃ u, R u w' ∧ a' = ⟨(patch u ms l).toArray, d⟩) → J a' w') (rel : R (fun n => l'.getD n undef) w') (keep : keepEq 0 ms l l') : J ⟨l'.toArray, d⟩ w' :=
  hJ _ _ ⟨_, rel, by rw [patch_at ms l l' keep]⟩
theorem loopU (ms : List (Option Nat)) (n0 : Nat) (R : Nat → (Nat → Value) → World → Prop) (atStart : R n0 (fun n => l.getD n undef) w) (self : keepEq 0 ms l l)
    (round : ∀ (gk : Nat) (u : Nat → Value) (wr : World), R gk u wr → ∀ (J : Nat → Act → World → Prop) (K : Act → World → Prop), (∀ k a' w', (∃ u, R k u w' ∧ a' = ⟨(patch u ms l).toArray, d⟩) → J k a' w') → (∀ a' w', Handed J gk a' w' → K a' w') → c.wp P (Exit.then K Q) ⟨(patch u ms l).toArray, d⟩ wr) : (Code.loop c).wp P Q ⟨l.toArray, d⟩ w := by
  refine wp_loop_ghost_k (fun n a w => ∃ u, R n u w ∧ a = ⟨(patch u ms l).toArray, d⟩) n0 ⟨_, atStart, by rw [patch_at ms l l self]⟩ ?_
  rintro n a w ⟨u, hR, rfl⟩ J K hJ hK
  exact round n u w hR J K hJ hK
theorem meetL {J : Nat → Act → World → Prop} {k : Nat} {ms : List (Option Nat)} {R : Nat → (Nat → Value) → World → Prop} {l' : List Value} {w' : World}
    (hJ : ∀ k a' w', (∃ u, R k u w' ∧ a' = ⟨(patch u ms l).toArray, d⟩) → J k a' w') (rel : R k (fun n => l'.getD n undef) w') (keep : keepEq 0 ms l l') : J k ⟨l'.toArray, d⟩ w' :=
  hJ _ _ _ ⟨_, rel, by rw [patch_at ms l l' keep]⟩
end
end Go.Proofs.YtdllkibfikcfbaaDoor.KPatch
