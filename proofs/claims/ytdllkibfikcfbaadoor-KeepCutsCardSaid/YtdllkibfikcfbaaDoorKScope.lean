import Derived.ScopeJumps
import Derived.WalkMore
/- A scope through which the run goes by jumps to several labels: what holds at each label, and a number that each pass from a label to the next lowers. -/
namespace Go.Proofs.YtdllkibfikcfbaaDoor.KScope
open Go
/-- As Q; by a jump to a label: J of that label. -/
def jumps (J : Nat → Act → World → Prop) (Q : Exit → Act → World → Prop) : Exit → Act → World → Prop
  | .goto l, a, w => J l a w
  | e, a, w => Q e a w

theorem jumps_goto {J : Nat → Act → World → Prop} {Q : Exit → Act → World → Prop} {l : Nat} {a : Act} {w : World} (h : J l a w) : jumps J Q (.goto l) a w := h
theorem jumps_ret {J : Nat → Act → World → Prop} {Q : Exit → Act → World → Prop} {a : Act} {w : World} (h : Q .ret a w) : jumps J Q .ret a w := h
theorem jumps_normal {J : Nat → Act → World → Prop} {Q : Exit → Act → World → Prop} {a : Act} {w : World} (h : Q .normal a w) : jumps J Q .normal a w := h

section
variable {P : Program} {a : Act} {w : World} {Q : Exit → Act → World → Prop}

theorem wp_scope_labels {c : Code} (rest : Nat → Code) (J : Nat → Nat → Act → World → Prop)
    (hf : ∀ l n a w, J l n a w → findLabel c l = some (rest l))
    (first : c.wp P (jumps (fun l a w => ∃ n, J l n a w) Q) a w)
    (pass : ∀ l n a w, J l n a w → (rest l).wp P (jumps (fun l' a' w' => ∃ m, m < n ∧ J l' m a' w') Q) a w) : (Code.scope c).wp P Q a w := by
  intro b k cs
  have hg : ∀ l, findLabel c l = some (rest l) → gotoIn l (.inScope c :: k) = some (.code (rest l) :: .inScope c :: k) := fun l h => by simp [gotoIn, h]
  have key : ∀ n l a w, J l n a w → ∃ e a' w', Q e a' w' ∧ Arrives P (lone (b.at a (.code (rest l) :: .inScope c :: k)) cs w) b k cs e a' w' := by
    intro n
    induction n using Nat.strongRecOn with
    | _ n ih =>
      intro l a w hJ
      obtain ⟨e, a₁, w₁, hq, harr⟩ := pass l n a w hJ b (.inScope c :: k) cs
      cases e with
      | normal => exact ⟨.normal, a₁, w₁, hq, Steps.trans harr (.one step_inScope)⟩
      | exit id => exact ⟨.exit id, a₁, w₁, hq, fun k' hk => harr k' (by simp [exitTo, hk])⟩
      | goto l' =>
        obtain ⟨m, hlt, hJ'⟩ := (show ∃ m, m < n ∧ J l' m a₁ w₁ from hq)
        obtain ⟨e₂, a₂, w₂, hq₂, harr₂⟩ := ih m hlt l' a₁ w₁ hJ'
        exact ⟨e₂, a₂, w₂, hq₂, .of_steps (harr _ (hg l' (hf l' m a₁ w₁ hJ'))) harr₂⟩
      | ret => exact ⟨_, a₁, w₁, hq, harr⟩
      | panic ch => exact ⟨_, a₁, w₁, hq, harr⟩
      | outgrown => exact ⟨_, a₁, w₁, hq, harr⟩
  obtain ⟨e, a₁, w₁, hq, harr⟩ := first b (.inScope c :: k) cs
  cases e with
  | normal => exact ⟨.normal, a₁, w₁, hq, .head step_scope (Steps.trans harr (.one step_inScope))⟩
  | exit id => exact ⟨.exit id, a₁, w₁, hq, fun k' hk => .head step_scope (harr k' (by simp [exitTo, hk]))⟩
  | goto l' =>
    obtain ⟨n, hJ'⟩ := (show ∃ n, J l' n a₁ w₁ from hq)
    obtain ⟨e₂, a₂, w₂, hq₂, harr₂⟩ := key n l' a₁ w₁ hJ'
    exact ⟨e₂, a₂, w₂, hq₂, .of_steps (.head step_scope (harr _ (hg l' (hf l' n a₁ w₁ hJ')))) harr₂⟩
  | ret => exact ⟨_, a₁, w₁, hq, .of_steps (.one step_scope) harr⟩
  | panic ch => exact ⟨_, a₁, w₁, hq, .of_steps (.one step_scope) harr⟩
  | outgrown => exact ⟨_, a₁, w₁, hq, .of_steps (.one step_scope) harr⟩
/-- One label, told at its first passing too: what stands behind it is walked once. -/
theorem wp_scope_one {c X : Code} (l : Nat) (J : Nat → Act → World → Prop) (hf : findLabel c l = some (Code.seq .skip X))
    (pass : ∀ n a w, J n a w → X.wp P (jumps (fun l' a' w' => l' = l ∧ ∃ m, m < n ∧ J m a' w') Q) a w)
    (first : (∀ n a w, J n a w → X.wp P (jumps (fun l' a w => ∃ n, l' = l ∧ J n a w) Q) a w) → c.wp P (jumps (fun l' a w => ∃ n, l' = l ∧ J n a w) Q) a w) : (Code.scope c).wp P Q a w := by
  refine wp_scope_labels (fun _ => Code.seq .skip X) (fun l' n a w => l' = l ∧ J n a w) (fun l' n a w h => by rw [h.1]; exact hf) (first (fun n a w h => wp_mono (pass n a w h) ?_)) (fun l' n a w h => wp_seq (wp_skip (wp_mono (pass n a w h.2) ?_)))
  · intro e a w hq
    cases e with
    | goto l' => obtain ⟨h1, m, _, h2⟩ := hq; exact ⟨m, h1, h2⟩
    | _ => exact hq
  · intro e a w hq
    cases e with
    | goto l' => obtain ⟨h1, m, h3, h2⟩ := hq; exact ⟨m, h3, h1, h2⟩
    | _ => exact hq
end
end Go.Proofs.YtdllkibfikcfbaaDoor.KScope
